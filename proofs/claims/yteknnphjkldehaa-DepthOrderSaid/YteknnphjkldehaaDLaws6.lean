/-
  The walks of the laws of layer 27, sixth part: the order of the ranges.
-/
import Derived.Test.YteknnphjkldehaaDLaws2
import Derived.Test.YteknnphjkldehaaDAgree
import Derived.Test.YteknnphjkldehaaDList
import Derived.Test.YteknnphjkldehaaDPlain4
namespace Go.Proofs.Yteknnphjkldehaa
open Go.RowKit

/-- 'append(l, m...)' as one step of a region that draws its order. -/
theorem step_list {P : Program} {w0 w1 : World} {e : TypeId} {size bytes : Nat} {v : Value} {n : Nat} {xs : List Value} (hb : Own w0 w1 e size v n xs)
    {t : TypeId} {z : Value} (hT : SlTy P t e z size bytes) (hzs : z.cells.size = size) (hsz : 0 < size) {A : Option Addr} {m c : Nat} {news : List Value}
    (hr : Rd w1 w1.heap.size A news) (hl : news.length = m * size) (h1 : ∀ u ∈ news, u.oneCell' = true)
    (hfit : (n + m + (n + m) / 4 + 192) * bytes ≤ 281474976710656) (h63 : n + m ≤ maxLen)
    {ops : Array Oper} {o : Oper} {a : Act} {K : Act → World → Prop} {Q : Exit → Act → World → Prop} {E : Prop}
    (hgd : o.guard = none) (s x : Operand) (ho : o.op = .call { callee := .builtin .append, args := #[s, x], argTypes := #[t, t] })
    (hs : a.eval s = v) (hx : a.eval x = .slice A m c) (h : ∀ v' w', Own w0 w' e size v' (n + m) (xs ++ news) → K (a.put o.dst v') w') :
    if Region.wanted o (yielded ops a.tmps) = true then Oper.wp P o a w1 K Q else E := by
  have hw : Region.wanted o (yielded ops a.tmps) = true := by simp [Region.wanted, hgd]
  rw [if_pos hw]
  obtain ⟨ht, i, hi, hz, hs1, hs2⟩ := hT
  cases A with
  | some ad =>
    refine wp_append_own_wide w1 s x t ho w0.heap.size e i z size bytes ht hi hz hs1 hs2 hzs hsz v n xs hs hb.1 ad m c news hx hl ?_ h1 h63 hfit hb.2.size ?_
    · rcases hr with rfl | ⟨ad', e', _, hc⟩
      · intro j u hj; simp at hj
      · cases e'; exact hc
    · intro v' w' ho' hg _
      exact h v' w' (hb.grown ho' hg)
  | none =>
    have hn : news = [] := by
      rcases hr with hr | ⟨_, e', _⟩
      · exact hr
      · cases e'
    subst hn
    have hm : m = 0 := by
      have h0 : m * size = 0 := hl.symm
      rcases Nat.mul_eq_zero.1 h0 with h0 | h0
      · exact h0
      · omega
    subst hm
    obtain ⟨B, d, rfl, hd⟩ := own_form hb.1
    have hr := run_append_nothing (P := P) w1 t t o.type e i ht hi B n d hd (.slice none 0 c) (_root_.Go.Src.ofNil w1 ht c)
    unfold Oper.wp execOp
    simp only [ho, resolve, invoke, builtin, Sem.run_bind, Sem.run_pure, Result.andThen_ok, List.map_toArray, List.map_cons, List.map_nil, hs, hx, hr]
    exact h _ _ (by simpa using hb)

theorem own_two {w : World} {base size n c : Nat} {e : TypeId} {A : Option Addr} {xs : List Value} (h : w.ownsRow base e size (.slice A n c) n xs) : (A = none ∧ n = 0 ∧ c = 0) ∨ ∃ g, A = some ⟨g, 0, none⟩ := by
  rcases h.2 with ⟨h1, h2⟩ | ⟨g, cap, cur, hv, _⟩
  · cases h1; exact .inl ⟨rfl, h2, rfl⟩
  · cases hv; exact .inr ⟨g, rfl⟩
theorem flat_drop {α : Type} {f : α → List Value} {k : Nat} (hk : ∀ a, (f a).length = k) : ∀ (L : List α) (i : Nat), (L.flatMap f).drop (i * k) = (L.drop i).flatMap f
  | L, 0 => by simp
  | [], i + 1 => by simp
  | a :: L, i + 1 => by
    rw [List.flatMap_cons, List.drop_succ_cons, ← flat_drop hk L i, Nat.succ_mul, Nat.add_comm, List.drop_append, hk]
    rw [List.drop_eq_nil_of_le (by rw [hk]; omega), List.nil_append]
    congr 1; omega
theorem flat_take {α : Type} {f : α → List Value} {k : Nat} (hk : ∀ a, (f a).length = k) : ∀ (L : List α) (i : Nat), (L.flatMap f).take (i * k) = (L.take i).flatMap f
  | L, 0 => by simp
  | [], i + 1 => by simp
  | a :: L, i + 1 => by
    rw [List.flatMap_cons, List.take_succ_cons, List.flatMap_cons, ← flat_take hk L i, Nat.succ_mul, Nat.add_comm, List.take_append, hk]
    rw [List.take_of_length_le (by rw [hk]; omega)]
    congr 2; omega
theorem add_mk (b o k : Nat) : (⟨b, o, none⟩ : Addr).add k = ⟨b, o + k, none⟩ := by unfold Addr.add; split <;> simp_all
set_option maxRecDepth 100000 in
set_option maxHeartbeats 2000000 in
theorem walk_DepthOrder (A : Option Addr) (n c : Nat) (zs : List Int) (k : Int) (w : World)
    (hr : Rd w w.heap.size A (zs.map Iv)) (hn : zs.length = n) (hz : ∀ z ∈ zs, (Lit.int .i64 z).wf = true) (_hc : n ≤ c) (hb : n * 8 ≤ 140737488351232) (_wk : (Lit.int .i64 k).wf = true) :
    Calls Try.prog 6 #[.slice A n c, .int .i64 k] w fun e w' => e = .returned (.bool true) ∧ Below w.heap.size w w' := by
  have HZ := Lib.hid (wf_i64s hz)
  have HN := Lib.hid hn
  clear hz hn _hc _wk
  go_enter Try.func6, Try.ntmps6
  go_wp2_with fail
  refine (ranges_any A n c 8 zs _ hr HN.out HZ.out (by omega) (by omega)).mono ?_; rintro e w1 ⟨v1, r, rfl, ho1, hg1, hl1, hb1⟩
  obtain ⟨B1, d1, rfl, hd1⟩ := own_form ho1
  have hx1 := Rd.of_own ho1
  have two := own_two ho1
  have HC := Lib.hid (gen_chk hg1 (by omega))
  have HG := Lib.hid hg1
  clear ho1 hr hg1
  go_wp2_with fail
  refine (pick_any k (r.length + 1) _ (by omega) (by omega)).mono ?_; rintro e w' ⟨rfl, rfl⟩
  have hil := pickN_lt k (show 0 < r.length + 1 by omega)
  generalize pickN k (r.length + 1) = i at *
  have hPM : (r.drop i ++ r.take i).Perm r := List.perm_append_comm.trans (by rw [List.take_append_drop])
  have HPP := Lib.hid (peak_perm hPM.symm HG.out HC.out)
  have hlM : (r.drop i ++ r.take i).length = r.length := hPM.length_eq
  have htk : Rd w1 w1.heap.size B1 ((r.take i).flatMap rangeC) := by
    have := hx1.take (i * 8)
    rw [flat_take (k := 8) (fun _ => rfl)] at this
    exact this
  have HTK := Lib.hid htk
  have HX1 := Lib.hid hx1
  have HLM := Lib.hid hlM
  clear hx1 hlM hPM
  have l1 : ((r.drop i).flatMap rangeC).length = (r.length - i) * 8 := by rw [flat_len (k := 8) (fun _ => rfl), List.length_drop]
  have l2 : ((r.take i).flatMap rangeC).length = i * 8 := by rw [flat_len (k := 8) (fun _ => rfl), List.length_take, Nat.min_eq_left (by omega)]
  have HL1 := Lib.hid l1
  have HL2 := Lib.hid l2
  rcases two with ⟨rfl, hr0, rfl⟩ | ⟨g, rfl⟩
  · have hr1 : r = [] := List.eq_nil_of_length_eq_zero hr0
    subst hr1
    have hi0 : i = 0 := by simp at hil; omega
    subst hi0
    have hcut : Rd w1 w1.heap.size none (([] : List Rg).flatMap rangeC) := .inl rfl
    have HCUT := Lib.hid hcut
    clear htk hcut l1 l2
    go_wp2_with fail
    go_region_held3 (fun w' => Below w1.heap.size w1 w') (first | assumption | exact Below.refl _ _ | exact ⟨rfl, rfl, rfl, Nat.le_refl _, fun _ _ => rfl⟩ | exact hbq) (first | (refine step_list ho5 rgs rfl (by decide) (Rd.call HTK.out (‹Below w1.heap.size w1 _›)) (by first | exact HL2.out | (rw [HL2.out]) | (simp; done)) (cells_rg _) (by omega) (by unfold maxLen; omega) rfl _ _ rfl rfl rfl ?_; intro v6 w6 ho6; have hbq := bt ((Below.refl w1.heap.size w1).drew) ho6.2) | (refine step_list ho5.drew rgs rfl (by decide) (Rd.call HTK.out (‹Below w1.heap.size w1 _›)) (by first | exact HL2.out | (rw [HL2.out]) | (simp; done)) (cells_rg _) (by omega) (by unfold maxLen; omega) rfl _ _ rfl rfl rfl ?_; intro v6 w6 ho6; have hbq := bt ((Below.refl w1.heap.size w1).drew) ho6.2) | (refine step_list (Own.nil _ _ _) rgs rfl (by decide) (Rd.call HCUT.out (‹Below w1.heap.size w1 _›)) (by first | exact HL1.out | (rw [HL1.out]; simp; done) | (simp; done)) (cells_rg _) (by omega) (by unfold maxLen; omega) rfl _ _ rfl rfl rfl ?_; intro v5 w5 ho5; have hbq := bt (‹Below w1.heap.size w1 _›) ho5.2))
    obtain ⟨B6, d6, rfl, hd6⟩ := own_form ho6.1
    have hx6 := Rd.of_own ho6.1
    have hx7 : Rd w6 w6.heap.size B6 (((([] : List Rg).drop 0 ++ ([] : List Rg).take 0)).flatMap rangeC) := by rw [List.flatMap_append]; simpa using hx6
    have hr6 := Rd.call HX1.out hbq
    have hb16 := bt hb1 hbq
    clear hx6 ho5 ho6
    go_wp2_with fail
    refine (peak_any 1 _ _ _ (([] : List Rg)) _ hr6 (by first | rfl | simp) (by first | omega | (simp; omega) | (simp; done))).mono ?_; rintro e w8 ⟨rfl, hb8⟩
    have hr8 := hr6.call hb8
    have hx8 := hx7.call hb8
    have hb18 := bt hb16 hb8
    clear hr6 hx7 hb16 hb8
    generalize hmm : mostR 1 (([] : List Rg)) = m at *
    have HM := Lib.hid hmm
    clear hmm
    obtain ⟨d, ⟨⟨an, ai, az⟩, aq⟩⟩ := m
    dsimp only [Rv]
    have hP9 := Blk.new' w8 33 #[.bool an, .int .i64 ai, .string az, .int .i64 aq]
    have hb9 := (Below.refl w8.heap.size w8).alloc (Nat.le_refl _) (.cells #[.bool an, .int .i64 ai, .string az, .int .i64 aq] 33)
    have hr9 := hr8.call hb9
    have hx9 := hx8.call hb9
    have hb19 := bt hb18 hb9
    clear hr8 hx8 hb18 hb9
    go_wp2_with fail
    generalize w8.alloc (.cells #[.bool an, .int .i64 ai, .string az, .int .i64 aq] 33) = w9 at *
    refine (peak_any 1 _ _ _ ((([] : List Rg).drop 0 ++ ([] : List Rg).take 0)) _ hx9 (by first | (have := HLM.out; omega) | (rw [HLM.out]; simp; done) | (rw [HLM.out]; omega) | (simp; done)) (by first | omega | (simp; omega) | (simp; done))).mono ?_; rintro e w10 ⟨rfl, hb10⟩
    rw [← HPP.out]
    dsimp only [Rv]
    have hr10 := hr9.call hb10
    have hx10 := hx9.call hb10
    have hP10 := hP9.call hb10
    have hb110 := bt hb19 hb10
    clear hr9 hx9 hP9 hb19 hb10
    have hQ := Blk.new' w10 33 #[.bool an, .int .i64 ai, .string az, .int .i64 aq]
    have hb11 := (Below.refl w10.heap.size w10).alloc (Nat.le_refl _) (.cells #[.bool an, .int .i64 ai, .string az, .int .i64 aq] 33)
    have hr11 := hr10.call hb11
    have hx11 := hx10.call hb11
    have hP11 := hP10.call hb11
    have hb111 := bt hb110 hb11
    clear hr10 hx10 hP10 hb110 hb11
    go_wp2_with fail
    generalize w10.alloc (.cells #[.bool an, .int .i64 ai, .string az, .int .i64 aq] 33) = w11 at *
    refine (awake27 _).mono ?_; rintro e w12 ⟨rfl, hb12⟩
    go_wp2_with fail
    refine (depth_any 1 _ _ _ (([] : List Rg)) _ (hr11.call hb12) (by first | rfl | simp) (by first | omega | (simp; omega) | (simp; done))).mono ?_; rintro e w13 ⟨rfl, hb13⟩
    rw [HM.out]
    go_wp2_with fail
    refine (depth_any 1 _ _ _ ((([] : List Rg).drop 0 ++ ([] : List Rg).take 0)) _ ((hx11.call hb12).call hb13) (by first | (have := HLM.out; omega) | (rw [HLM.out]; simp; done) | (rw [HLM.out]; omega) | (simp; done)) (by first | omega | (simp; omega) | (simp; done))).mono ?_; rintro e w14 ⟨rfl, hb14⟩
    rw [← HPP.out]
    have hP14 := ((hP11.call hb12).call hb13).call hb14
    have hQ14 := ((hQ.call hb12).call hb13).call hb14
    have o0 := hP14.cellAt 0 rfl
    have o1 := hP14.cellAt 1 rfl
    have o2 := hP14.cellAt 2 rfl
    have o3 := hP14.cellAt 3 rfl
    have q0 := hQ14.cellAt 0 rfl
    have q1 := hQ14.cellAt 1 rfl
    have q2 := hQ14.cellAt 2 rfl
    have q3 := hQ14.cellAt 3 rfl
    go_wp2
    go_ret
    exact ⟨ret_bool (by first | rfl | (simp; done)), bt (bt (bt hb111 hb12) hb13) hb14⟩
  · by_cases hd : d1 = i
    · have hii : i = r.length := by omega
      subst hii
      subst hd
      have hcut : Rd w1 w1.heap.size (some ⟨g, 0, none⟩) ((r.drop r.length).flatMap rangeC) := by rw [List.drop_length]; exact .inl rfl
      have HCUT := Lib.hid hcut
      clear htk hcut l1 l2
      go_wp2_with fail
      go_region_held3 (fun w' => Below w1.heap.size w1 w') (first | assumption | exact Below.refl _ _ | exact ⟨rfl, rfl, rfl, Nat.le_refl _, fun _ _ => rfl⟩ | exact hbq) (first | (refine step_list ho5 rgs rfl (by decide) (Rd.call HTK.out (‹Below w1.heap.size w1 _›)) (by first | exact HL2.out | (rw [HL2.out]) | (simp; done)) (cells_rg _) (by omega) (by unfold maxLen; omega) rfl _ _ rfl rfl rfl ?_; intro v6 w6 ho6; have hbq := bt ((Below.refl w1.heap.size w1).drew) ho6.2) | (refine step_list ho5.drew rgs rfl (by decide) (Rd.call HTK.out (‹Below w1.heap.size w1 _›)) (by first | exact HL2.out | (rw [HL2.out]) | (simp; done)) (cells_rg _) (by omega) (by unfold maxLen; omega) rfl _ _ rfl rfl rfl ?_; intro v6 w6 ho6; have hbq := bt ((Below.refl w1.heap.size w1).drew) ho6.2) | (refine step_list (Own.nil _ _ _) rgs rfl (by decide) (Rd.call HCUT.out (‹Below w1.heap.size w1 _›)) (by first | exact HL1.out | (rw [HL1.out]; simp; done) | (simp; done)) (cells_rg _) (by omega) (by unfold maxLen; omega) rfl _ _ rfl rfl rfl ?_; intro v5 w5 ho5; have hbq := bt (‹Below w1.heap.size w1 _›) ho5.2))
      obtain ⟨B6, d6, rfl, hd6⟩ := own_form ho6.1
      have hx6 := Rd.of_own ho6.1
      have hx7 : Rd w6 w6.heap.size B6 (((r.drop r.length ++ r.take r.length)).flatMap rangeC) := by rw [List.flatMap_append]; simpa using hx6
      have hr6 := Rd.call HX1.out hbq
      have hb16 := bt hb1 hbq
      clear hx6 ho5 ho6
      go_wp2_with fail
      refine (peak_any 1 _ _ _ (r) _ hr6 (by first | rfl | simp) (by first | omega | (simp; omega) | (simp; done))).mono ?_; rintro e w8 ⟨rfl, hb8⟩
      have hr8 := hr6.call hb8
      have hx8 := hx7.call hb8
      have hb18 := bt hb16 hb8
      clear hr6 hx7 hb16 hb8
      generalize hmm : mostR 1 (r) = m at *
      have HM := Lib.hid hmm
      clear hmm
      obtain ⟨d, ⟨⟨an, ai, az⟩, aq⟩⟩ := m
      dsimp only [Rv]
      have hP9 := Blk.new' w8 33 #[.bool an, .int .i64 ai, .string az, .int .i64 aq]
      have hb9 := (Below.refl w8.heap.size w8).alloc (Nat.le_refl _) (.cells #[.bool an, .int .i64 ai, .string az, .int .i64 aq] 33)
      have hr9 := hr8.call hb9
      have hx9 := hx8.call hb9
      have hb19 := bt hb18 hb9
      clear hr8 hx8 hb18 hb9
      go_wp2_with fail
      generalize w8.alloc (.cells #[.bool an, .int .i64 ai, .string az, .int .i64 aq] 33) = w9 at *
      refine (peak_any 1 _ _ _ ((r.drop r.length ++ r.take r.length)) _ hx9 (by first | (have := HLM.out; omega) | (rw [HLM.out]; simp; done) | (rw [HLM.out]; omega) | (simp; done)) (by first | omega | (simp; omega) | (simp; done))).mono ?_; rintro e w10 ⟨rfl, hb10⟩
      rw [← HPP.out]
      dsimp only [Rv]
      have hr10 := hr9.call hb10
      have hx10 := hx9.call hb10
      have hP10 := hP9.call hb10
      have hb110 := bt hb19 hb10
      clear hr9 hx9 hP9 hb19 hb10
      have hQ := Blk.new' w10 33 #[.bool an, .int .i64 ai, .string az, .int .i64 aq]
      have hb11 := (Below.refl w10.heap.size w10).alloc (Nat.le_refl _) (.cells #[.bool an, .int .i64 ai, .string az, .int .i64 aq] 33)
      have hr11 := hr10.call hb11
      have hx11 := hx10.call hb11
      have hP11 := hP10.call hb11
      have hb111 := bt hb110 hb11
      clear hr10 hx10 hP10 hb110 hb11
      go_wp2_with fail
      generalize w10.alloc (.cells #[.bool an, .int .i64 ai, .string az, .int .i64 aq] 33) = w11 at *
      refine (awake27 _).mono ?_; rintro e w12 ⟨rfl, hb12⟩
      go_wp2_with fail
      refine (depth_any 1 _ _ _ (r) _ (hr11.call hb12) (by first | rfl | simp) (by first | omega | (simp; omega) | (simp; done))).mono ?_; rintro e w13 ⟨rfl, hb13⟩
      rw [HM.out]
      go_wp2_with fail
      refine (depth_any 1 _ _ _ ((r.drop r.length ++ r.take r.length)) _ ((hx11.call hb12).call hb13) (by first | (have := HLM.out; omega) | (rw [HLM.out]; simp; done) | (rw [HLM.out]; omega) | (simp; done)) (by first | omega | (simp; omega) | (simp; done))).mono ?_; rintro e w14 ⟨rfl, hb14⟩
      rw [← HPP.out]
      have hP14 := ((hP11.call hb12).call hb13).call hb14
      have hQ14 := ((hQ.call hb12).call hb13).call hb14
      have o0 := hP14.cellAt 0 rfl
      have o1 := hP14.cellAt 1 rfl
      have o2 := hP14.cellAt 2 rfl
      have o3 := hP14.cellAt 3 rfl
      have q0 := hQ14.cellAt 0 rfl
      have q1 := hQ14.cellAt 1 rfl
      have q2 := hQ14.cellAt 2 rfl
      have q3 := hQ14.cellAt 3 rfl
      go_wp2
      go_ret
      exact ⟨ret_bool (by first | rfl | (simp; done)), bt (bt (bt hb111 hb12) hb13) hb14⟩
    · have hcut : Rd w1 w1.heap.size (some ⟨g, i * 8, none⟩) ((r.drop i).flatMap rangeC) := by
        have := HX1.out.cut i (i * 8) d1 8 rfl (by rw [flat_len (k := 8) (fun _ => rfl)]; omega)
        rw [if_neg hd, flat_drop (k := 8) (fun _ => rfl), Option.map_some, add_mk, Nat.zero_add] at this
        exact this
      have HCUT := Lib.hid hcut
      have b1 : (0 : Int) ≤ (i : Int) := by omega
      have b2 : (i : Int) ≤ (r.length : Int) := by omega
      have b3 : (i : Int) ≤ (d1 : Int) := by omega
      have b4 : (r.length : Int) ≤ (d1 : Int) := by omega
      clear htk hcut l1 l2
      go_wp2_with fail
      go_region_held3 (fun w' => Below w1.heap.size w1 w') (first | assumption | exact Below.refl _ _ | exact ⟨rfl, rfl, rfl, Nat.le_refl _, fun _ _ => rfl⟩ | exact hbq) (first | (refine step_list ho5 rgs rfl (by decide) (Rd.call HTK.out (‹Below w1.heap.size w1 _›)) (by first | exact HL2.out | (rw [HL2.out]) | (simp; done)) (cells_rg _) (by omega) (by unfold maxLen; omega) rfl _ _ rfl rfl rfl ?_; intro v6 w6 ho6; have hbq := bt ((Below.refl w1.heap.size w1).drew) ho6.2) | (refine step_list ho5.drew rgs rfl (by decide) (Rd.call HTK.out (‹Below w1.heap.size w1 _›)) (by first | exact HL2.out | (rw [HL2.out]) | (simp; done)) (cells_rg _) (by omega) (by unfold maxLen; omega) rfl _ _ rfl rfl rfl ?_; intro v6 w6 ho6; have hbq := bt ((Below.refl w1.heap.size w1).drew) ho6.2) | (refine step_list (Own.nil _ _ _) rgs rfl (by decide) (Rd.call HCUT.out (‹Below w1.heap.size w1 _›)) (by first | exact HL1.out | (rw [HL1.out]; simp; done) | (simp; done)) (cells_rg _) (by omega) (by unfold maxLen; omega) rfl _ _ rfl rfl rfl ?_; intro v5 w5 ho5; have hbq := bt (‹Below w1.heap.size w1 _›) ho5.2))
      obtain ⟨B6, d6, rfl, hd6⟩ := own_form ho6.1
      have hx6 := Rd.of_own ho6.1
      have hx7 : Rd w6 w6.heap.size B6 (((r.drop i ++ r.take i)).flatMap rangeC) := by rw [List.flatMap_append]; simpa using hx6
      have hr6 := Rd.call HX1.out hbq
      have hb16 := bt hb1 hbq
      clear hx6 ho5 ho6
      go_wp2_with fail
      refine (peak_any 1 _ _ _ (r) _ hr6 (by first | rfl | simp) (by first | omega | (simp; omega) | (simp; done))).mono ?_; rintro e w8 ⟨rfl, hb8⟩
      have hr8 := hr6.call hb8
      have hx8 := hx7.call hb8
      have hb18 := bt hb16 hb8
      clear hr6 hx7 hb16 hb8
      generalize hmm : mostR 1 (r) = m at *
      have HM := Lib.hid hmm
      clear hmm
      obtain ⟨d, ⟨⟨an, ai, az⟩, aq⟩⟩ := m
      dsimp only [Rv]
      have hP9 := Blk.new' w8 33 #[.bool an, .int .i64 ai, .string az, .int .i64 aq]
      have hb9 := (Below.refl w8.heap.size w8).alloc (Nat.le_refl _) (.cells #[.bool an, .int .i64 ai, .string az, .int .i64 aq] 33)
      have hr9 := hr8.call hb9
      have hx9 := hx8.call hb9
      have hb19 := bt hb18 hb9
      clear hr8 hx8 hb18 hb9
      go_wp2_with fail
      generalize w8.alloc (.cells #[.bool an, .int .i64 ai, .string az, .int .i64 aq] 33) = w9 at *
      refine (peak_any 1 _ _ _ ((r.drop i ++ r.take i)) _ hx9 (by first | (have := HLM.out; omega) | (rw [HLM.out]; simp; done) | (rw [HLM.out]; omega) | (simp; done)) (by first | omega | (simp; omega) | (simp; done))).mono ?_; rintro e w10 ⟨rfl, hb10⟩
      rw [← HPP.out]
      dsimp only [Rv]
      have hr10 := hr9.call hb10
      have hx10 := hx9.call hb10
      have hP10 := hP9.call hb10
      have hb110 := bt hb19 hb10
      clear hr9 hx9 hP9 hb19 hb10
      have hQ := Blk.new' w10 33 #[.bool an, .int .i64 ai, .string az, .int .i64 aq]
      have hb11 := (Below.refl w10.heap.size w10).alloc (Nat.le_refl _) (.cells #[.bool an, .int .i64 ai, .string az, .int .i64 aq] 33)
      have hr11 := hr10.call hb11
      have hx11 := hx10.call hb11
      have hP11 := hP10.call hb11
      have hb111 := bt hb110 hb11
      clear hr10 hx10 hP10 hb110 hb11
      go_wp2_with fail
      generalize w10.alloc (.cells #[.bool an, .int .i64 ai, .string az, .int .i64 aq] 33) = w11 at *
      refine (awake27 _).mono ?_; rintro e w12 ⟨rfl, hb12⟩
      go_wp2_with fail
      refine (depth_any 1 _ _ _ (r) _ (hr11.call hb12) (by first | rfl | simp) (by first | omega | (simp; omega) | (simp; done))).mono ?_; rintro e w13 ⟨rfl, hb13⟩
      rw [HM.out]
      go_wp2_with fail
      refine (depth_any 1 _ _ _ ((r.drop i ++ r.take i)) _ ((hx11.call hb12).call hb13) (by first | (have := HLM.out; omega) | (rw [HLM.out]; simp; done) | (rw [HLM.out]; omega) | (simp; done)) (by first | omega | (simp; omega) | (simp; done))).mono ?_; rintro e w14 ⟨rfl, hb14⟩
      rw [← HPP.out]
      have hP14 := ((hP11.call hb12).call hb13).call hb14
      have hQ14 := ((hQ.call hb12).call hb13).call hb14
      have o0 := hP14.cellAt 0 rfl
      have o1 := hP14.cellAt 1 rfl
      have o2 := hP14.cellAt 2 rfl
      have o3 := hP14.cellAt 3 rfl
      have q0 := hQ14.cellAt 0 rfl
      have q1 := hQ14.cellAt 1 rfl
      have q2 := hQ14.cellAt 2 rfl
      have q3 := hQ14.cellAt 3 rfl
      go_wp2
      go_ret
      exact ⟨ret_bool (by first | rfl | (simp; done)), bt (bt (bt hb111 hb12) hb13) hb14⟩

end Go.Proofs.Yteknnphjkldehaa
