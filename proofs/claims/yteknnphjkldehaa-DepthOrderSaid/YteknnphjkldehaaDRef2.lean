/-
  meet and Disjoint of layer 27 in the reference.
-/
import Derived.Test.YteknnphjkldehaaDRef
namespace Go.Proofs.Yteknnphjkldehaa
open Go.RowKit

set_option maxRecDepth 100000 in
set_option maxHeartbeats 1000000 in
theorem meet_any (t : Int) (a b : Rg) (w : World) : Calls Try.prog 40 #[.int .i64 t, Gv a, Gv b] w fun e w' => e = .returned (.bool (meetB t a b)) ∧ Below w.heap.size w w' := by
  obtain ⟨⟨⟨an, ai, az⟩, aq⟩, ⟨⟨bn, bi, bz⟩, bq⟩⟩ := a
  obtain ⟨⟨⟨cn, ci, cz⟩, cq⟩, ⟨⟨dn, di, dz⟩, dq⟩⟩ := b
  dsimp only [Rv, Gv]
  have hA : Blk ((w.alloc (.cells #[.bool an, .int .i64 ai, .string az, .int .i64 aq, .bool bn, .int .i64 bi, .string bz, .int .i64 bq] 37)).alloc (.cells #[.bool cn, .int .i64 ci, .string cz, .int .i64 cq, .bool dn, .int .i64 di, .string dz, .int .i64 dq] 37)) w.heap.size 37 [.bool an, .int .i64 ai, .string az, .int .i64 aq, .bool bn, .int .i64 bi, .string bz, .int .i64 bq] :=
    Blk.alloc (Blk.new' w 37 #[.bool an, .int .i64 ai, .string az, .int .i64 aq, .bool bn, .int .i64 bi, .string bz, .int .i64 bq]) _
  have hB : Blk ((w.alloc (.cells #[.bool an, .int .i64 ai, .string az, .int .i64 aq, .bool bn, .int .i64 bi, .string bz, .int .i64 bq] 37)).alloc (.cells #[.bool cn, .int .i64 ci, .string cz, .int .i64 cq, .bool dn, .int .i64 di, .string dz, .int .i64 dq] 37)) (w.heap.size + 1) 37 [.bool cn, .int .i64 ci, .string cz, .int .i64 cq, .bool dn, .int .i64 di, .string dz, .int .i64 dq] := by
    have := Blk.new' (w.alloc (.cells #[.bool an, .int .i64 ai, .string az, .int .i64 aq, .bool bn, .int .i64 bi, .string bz, .int .i64 bq] 37)) 37 #[.bool cn, .int .i64 ci, .string cz, .int .i64 cq, .bool dn, .int .i64 di, .string dz, .int .i64 dq]
    simpa using this
  have hbel : Below w.heap.size w ((w.alloc (.cells #[.bool an, .int .i64 ai, .string az, .int .i64 aq, .bool bn, .int .i64 bi, .string bz, .int .i64 bq] 37)).alloc (.cells #[.bool cn, .int .i64 ci, .string cz, .int .i64 cq, .bool dn, .int .i64 di, .string dz, .int .i64 dq] 37)) := ((Below.refl _ _).alloc (Nat.le_refl _) _).alloc (by simp) _
  have HR : Hid (meetB t ⟨⟨⟨an, ai, az⟩, aq⟩, ⟨⟨bn, bi, bz⟩, bq⟩⟩ ⟨⟨⟨cn, ci, cz⟩, cq⟩, ⟨⟨dn, di, dz⟩, dq⟩⟩ = (decide (cmpR t ⟨⟨an, ai, az⟩, aq⟩ ⟨⟨dn, di, dz⟩, dq⟩ ≤ 0) && decide (cmpR t ⟨⟨cn, ci, cz⟩, cq⟩ ⟨⟨bn, bi, bz⟩, bq⟩ ≤ 0))) := by show _ = _; rfl
  go_enter Try.func40, Try.ntmps40
  go_wp2_with fail
  generalize (w.alloc (.cells #[.bool an, .int .i64 ai, .string az, .int .i64 aq, .bool bn, .int .i64 bi, .string bz, .int .i64 bq] 37)).alloc (.cells #[.bool cn, .int .i64 ci, .string cz, .int .i64 cq, .bool dn, .int .i64 di, .string dz, .int .i64 dq] 37) = wa at *
  refine (rcmp_rank t ⟨⟨an, ai, az⟩, aq⟩ ⟨⟨dn, di, dz⟩, dq⟩ wa).mono ?_; rintro e w1 ⟨rfl, hb1⟩
  have a4 := (hA.call hb1).cellAt 4 rfl
  have a5 := (hA.call hb1).cellAt 5 rfl
  have a6 := (hA.call hb1).cellAt 6 rfl
  have a7 := (hA.call hb1).cellAt 7 rfl
  have c0 := (hB.call hb1).cellAt 0 rfl
  have c1 := (hB.call hb1).cellAt 1 rfl
  have c2 := (hB.call hb1).cellAt 2 rfl
  have c3 := (hB.call hb1).cellAt 3 rfl
  clear hA hB
  by_cases h1 : cmpR t ⟨⟨an, ai, az⟩, aq⟩ ⟨⟨dn, di, dz⟩, dq⟩ ≤ 0
  · go_wp2_with fail
    refine (rcmp_rank t ⟨⟨cn, ci, cz⟩, cq⟩ ⟨⟨bn, bi, bz⟩, bq⟩ w1).mono ?_; rintro e w2 ⟨rfl, hb2⟩
    have hd := decide_eq_true h1
    rw [hd] at HR
    clear h1
    go_wp2
    go_ret
    exact ⟨by rw [HR.out, Bool.true_and]; rfl, bt (bt hbel hb1) hb2⟩
  · have hd := decide_eq_false h1
    rw [hd] at HR
    go_wp2
    go_ret
    exact ⟨by rw [HR.out, Bool.false_and]; rfl, bt hbel hb1⟩

def apart (t : Int) (L : List Rg) : Prop := L.Pairwise (fun b a => meetB t a b = false)
instance (t : Int) (L : List Rg) : Decidable (apart t L) := by unfold apart; infer_instance
theorem apart_next {t : Int} {L : List Rg} {i : Nat} {p : Rg} (hp : L[i]? = some p) (h0 : apart t (L.take i)) (h : ∀ b ∈ L.take i, meetB t p b = false) : apart t (L.take (i + 1)) := by
  unfold apart at h0 ⊢
  rw [List.take_add_one, hp]
  rw [List.pairwise_append]
  exact ⟨h0, by simp, fun a ha b hb => by simp at hb; subst hb; exact h a ha⟩
theorem apart_hit {t : Int} {L : List Rg} {i j : Nat} {p q : Rg} (hp : L[i]? = some p) (hq : L[j]? = some q) (hij : j < i) (h : meetB t p q = true) : ¬ apart t L := by
  intro ha
  unfold apart at ha
  rw [List.pairwise_iff_getElem] at ha
  obtain ⟨hi, rfl⟩ := List.getElem?_eq_some_iff.1 hp
  obtain ⟨hj, rfl⟩ := List.getElem?_eq_some_iff.1 hq
  have := ha j i hj hi hij
  rw [h] at this
  cases this
theorem met_next {t : Int} {X : List Rg} {j : Nat} {p q : Rg} (hq : X[j]? = some q) (h0 : ∀ b ∈ X.take j, meetB t p b = false) (h : meetB t p q = false) : ∀ b ∈ X.take (j + 1), meetB t p b = false := by
  intro b hb
  rw [List.take_add_one, hq, List.mem_append] at hb
  rcases hb with hb | hb
  · exact h0 b hb
  · simp at hb; subst hb; exact h

set_option maxRecDepth 100000 in
set_option maxHeartbeats 4000000 in
theorem rdisj_any (t : Int) (A : Option Addr) (n c : Nat) (L : List Rg) (w : World) (hr : Rd w w.heap.size A (L.flatMap rangeC)) (hn : L.length = n) (hm : n ≤ 17592186044416) (hc : n ≤ c) :
    Calls Try.prog 34 #[.int .i64 t, .slice A n c] w fun e w' => e = .returned (.bool (chkR t L && decide (apart t L))) ∧ Below w.heap.size w w' := by
  have HN := Lib.hid hn
  clear hn
  go_enter Try.func34, Try.ntmps34
  go_wp2_with fail
  refine (rcheck_any t A n c L w hr HN.out hm).mono ?_; rintro e w1 ⟨rfl, hb1⟩
  have hr1 := hr.call hb1
  have hHK := Lib.hid (rfl : chkR t L = chkR t L)
  cases hk : chkR t L
  · have HC := Lib.hid hk
    clear hk
    go_wp2
    go_ret
    exact ⟨by rw [HC.out]; rfl, hb1⟩
  · have HC := Lib.hid hk
    clear hk hr
    go_wp2_with fail
    go_loopw [15] (fun b wr => ∃ (i : Nat), b = .int .i64 (i : Int) ∧ i ≤ n ∧ Hid (apart t (L.take i)) ∧ Below w1.heap.size w1 wr) (fun b _ => n - (intOf b).toNat)
    case atStart => exact ⟨0, rfl, by omega, List.Pairwise.nil, Below.refl _ _⟩
    case round =>
      obtain ⟨i, rfl, hi, HK, hb⟩ := hrel
      by_cases hin : i < n
      · obtain ⟨p, hp⟩ : ∃ p, L[i]? = some p := ⟨_, List.getElem?_eq_getElem (by rw [HN.out]; exact hin)⟩
        obtain ⟨ad, rfl, hadb, c0, c1, c2, c3, c4, c5, c6, c7⟩ := (hr1.call hb).range hp
        have HP := Lib.hid hp
        obtain ⟨⟨⟨an, ai, az⟩, aq⟩, ⟨⟨bn, bi, bz⟩, bq⟩⟩ := p
        clear hp
        have hAr := Blk.new' wr 37 #[.bool an, .int .i64 ai, .string az, .int .i64 aq, .bool bn, .int .i64 bi, .string bz, .int .i64 bq]
        have hbr := bt hb ((Below.refl wr.heap.size wr).alloc (Nat.le_refl _) (.cells #[.bool an, .int .i64 ai, .string az, .int .i64 aq, .bool bn, .int .i64 bi, .string bz, .int .i64 bq] 37))
        go_wp2_with fail
        generalize wr.alloc (.cells #[.bool an, .int .i64 ai, .string az, .int .i64 aq, .bool bn, .int .i64 bi, .string bz, .int .i64 bq] 37) = wb at *
        go_loopw [24] (fun b ws => ∃ (j : Nat), b = .int .i64 (j : Int) ∧ j ≤ i ∧ Hid (∀ b ∈ (L.take i).take j, meetB t ⟨⟨⟨an, ai, az⟩, aq⟩, ⟨⟨bn, bi, bz⟩, bq⟩⟩ b = false) ∧ Below wb.heap.size wb ws) (fun b _ => i - (intOf b).toNat)
        case atStart => exact ⟨0, rfl, by omega, (fun b hb => by simp at hb), Below.refl _ _⟩
        case round =>
          obtain ⟨j, rfl, hj, HJ, hb'⟩ := hrel
          have hbs := bt hbr hb'
          by_cases hjn : j < i
          · obtain ⟨q, hq⟩ : ∃ q, L[j]? = some q := ⟨_, List.getElem?_eq_getElem (by rw [HN.out]; omega)⟩
            obtain ⟨ae, e0, hadb2, d0, d1, d2, d3, d4, d5, d6, d7⟩ := (hr1.call hbs).range hq
            cases e0
            have HQ := Lib.hid hq
            have HQ2 := Lib.hid (show (L.take i)[j]? = some q by rw [List.getElem?_take, if_pos hjn, hq])
            obtain ⟨⟨⟨cn, ci, cz⟩, cq⟩, ⟨⟨dn, di, dz⟩, dq⟩⟩ := q
            clear hq c0 c1 c2 c3 c4 c5 c6 c7
            have hAw := hAr.call hb'
            have a0 := fun o => (hAw.alloc o).cellAt 0 rfl
            have a1 := fun o => (hAw.alloc o).cellAt 1 rfl
            have a2 := fun o => (hAw.alloc o).cellAt 2 rfl
            have a3 := fun o => (hAw.alloc o).cellAt 3 rfl
            have a4 := fun o => (hAw.alloc o).cellAt 4 rfl
            have a5 := fun o => (hAw.alloc o).cellAt 5 rfl
            have a6 := fun o => (hAw.alloc o).cellAt 6 rfl
            have a7 := fun o => (hAw.alloc o).cellAt 7 rfl
            cases hmt : meetB t ⟨⟨⟨an, ai, az⟩, aq⟩, ⟨⟨bn, bi, bz⟩, bq⟩⟩ ⟨⟨⟨cn, ci, cz⟩, cq⟩, ⟨⟨dn, di, dz⟩, dq⟩⟩
            · have HM := Lib.hid hmt
              go_wp2_with fail
              refine (meet_any t ⟨⟨⟨an, ai, az⟩, aq⟩, ⟨⟨bn, bi, bz⟩, bq⟩⟩ ⟨⟨⟨cn, ci, cz⟩, cq⟩, ⟨⟨dn, di, dz⟩, dq⟩⟩ _).mono ?_; rintro e w3 ⟨rfl, hb3⟩
              rw [hmt]
              clear hmt
              go_wp2
              go_roundw
              case rel => exact ⟨j + 1, by go_num, by omega, met_next HQ2.out HJ.out HM.out, bt (bt hb' ((Below.refl _ _).alloc (Nat.le_refl _) _)) hb3⟩
              case measure => simp [intOf]; omega
            · have HM := Lib.hid hmt
              go_wp2_with fail
              refine (meet_any t ⟨⟨⟨an, ai, az⟩, aq⟩, ⟨⟨bn, bi, bz⟩, bq⟩⟩ ⟨⟨⟨cn, ci, cz⟩, cq⟩, ⟨⟨dn, di, dz⟩, dq⟩⟩ _).mono ?_; rintro e w3 ⟨rfl, hb3⟩
              rw [hmt]
              clear hmt
              go_wp2
              go_ret
              exact ⟨by rw [HC.out, decide_eq_false (apart_hit HP.out HQ.out hjn HM.out)]; rfl, bt (bt (bt hb1 hbs) ((Below.refl _ _).alloc (Nat.le_refl _) _)) hb3⟩
          · have hj2 : j = i := by omega
            subst hj2
            rw [List.take_take, Nat.min_self] at HJ
            go_wp2
            go_roundw
            case rel => exact ⟨j + 1, by go_num, by omega, apart_next HP.out HK.out HJ.out, hbs⟩
            case measure => simp [intOf]; omega
      · have hin2 : i = n := by omega
        subst hin2
        rw [show List.take i L = L by rw [← HN.out, List.take_length]] at HK
        go_wp2
        go_ret
        exact ⟨by rw [HC.out, decide_eq_true HK.out]; rfl, bt hb1 hb⟩

end Go.Proofs.Yteknnphjkldehaa
