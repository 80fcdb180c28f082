/-
  Check and Stab of layer 27, in the code and in the reference.
-/
import Derived.Test.YteknnphjkldehaaOList
namespace Go.Proofs.Yteknnphjkldehaa
open Go.RowKit

def zeroR : Rk := ⟨⟨false, 0, ⟨#[]⟩⟩, 0⟩
def badR (t : Int) (r : Rg) : Bool := decide (0 < cmpR t r.lo r.hi)
def chkR (t : Int) (L : List Rg) : Bool := decide (L.length ≤ 256) && !L.any (badR t)
def stabR (t : Int) (L : List Rg) (p : Rk) : Nat := L.countP (fun r => hasB t r p)
theorem any_take_all {L : List Rg} {n : Nat} {f : Rg → Bool} (hn : L.length = n) (h : (L.take n).any f = false) : L.any f = false := by rw [← hn, List.take_length] at h; exact h
theorem any_take_some {L : List Rg} {i : Nat} {f : Rg → Bool} {p : Rg} (hp : L[i]? = some p) (h : f p = true) : L.any f = true := List.any_eq_true.2 ⟨p, List.mem_of_getElem? hp, h⟩
theorem any_take_next {L : List Rg} {i : Nat} {f : Rg → Bool} {p : Rg} (hp : L[i]? = some p) (h0 : (L.take i).any f = false) (h : f p = false) : (L.take (i + 1)).any f = false := by
  rw [List.take_add_one, hp, List.any_append, h0]; simp [h]

set_option maxRecDepth 100000 in
set_option maxHeartbeats 400000 in
theorem clo_any (t : Int) (r : Rg) (B : Nat) (w : World) (hB : w.cell? ⟨B, 0, none⟩ = some (.int .i64 t)) (hlt : B < w.heap.size) :
    Calls Try.prog 36 #[Gv r, .pointer (some ⟨B, 0, none⟩)] w fun e w' => e = .returned (.bool (badR t r)) ∧ Below w.heap.size w w' := by
  obtain ⟨⟨⟨an, ai, az⟩, aq⟩, ⟨⟨bn, bi, bz⟩, bq⟩⟩ := r
  dsimp only [Rv, Gv]
  have hA := Blk.new' w 37 #[.bool an, .int .i64 ai, .string az, .int .i64 aq, .bool bn, .int .i64 bi, .string bz, .int .i64 bq]
  have hbel : Below w.heap.size w (w.alloc (.cells #[.bool an, .int .i64 ai, .string az, .int .i64 aq, .bool bn, .int .i64 bi, .string bz, .int .i64 bq] 37)) := (Below.refl _ _).alloc (Nat.le_refl _) _
  have hB2 := (hbel.cell (p := ⟨B, 0, none⟩) hlt).trans hB
  have HR : Hid (badR t ⟨⟨⟨an, ai, az⟩, aq⟩, ⟨⟨bn, bi, bz⟩, bq⟩⟩ = decide (0 < cmpR t ⟨⟨an, ai, az⟩, aq⟩ ⟨⟨bn, bi, bz⟩, bq⟩)) := by show _ = _; rfl
  go_enter Try.func36, Try.ntmps36
  go_wp2_with fail
  generalize w.alloc (.cells #[.bool an, .int .i64 ai, .string az, .int .i64 aq, .bool bn, .int .i64 bi, .string bz, .int .i64 bq] 37) = wa at *
  refine (cmp_rank t ⟨⟨an, ai, az⟩, aq⟩ ⟨⟨bn, bi, bz⟩, bq⟩ wa).mono ?_; rintro e w1 ⟨rfl, hb1⟩
  go_wp2
  go_ret
  exact ⟨by rw [HR.out]; rfl, bt hbel hb1⟩
set_option maxRecDepth 100000 in
set_option maxHeartbeats 400000 in
theorem index_any (t : Int) (B : Nat) (A : Option Addr) (n c : Nat) (L : List Rg) (w : World) (hr : Rd w w.heap.size A (L.flatMap rangeC)) (hn : L.length = n) (hm : n ≤ 17592186044416) (hB : w.cell? ⟨B, 0, none⟩ = some (.int .i64 t)) (hlt : B < w.heap.size) :
    Calls Try.prog 41 #[.slice A n c, .func (.func 36) #[] #[.pointer (some ⟨B, 0, none⟩)]] w fun e w' => ∃ x : Int, e = .returned (.int .i64 x) ∧ Hid (decide (0 ≤ x) = L.any (badR t)) ∧ Below w.heap.size w w' := by
  have HN := Lib.hid hn
  clear hn
  go_enter Try.func41, Try.ntmps41
  go_wp2_with fail
  go_loopw [8] (fun b wr => ∃ (i : Nat), b = .int .i64 (i : Int) ∧ i ≤ n ∧ Hid ((L.take i).any (badR t) = false) ∧ Below w.heap.size w wr) (fun b _ => n - (intOf b).toNat)
  case atStart => exact ⟨0, rfl, by omega, rfl, Below.refl _ _⟩
  case round =>
    obtain ⟨i, rfl, hi, HK, hb⟩ := hrel
    by_cases hin : i < n
    · obtain ⟨p, hp⟩ : ∃ p, L[i]? = some p := ⟨_, List.getElem?_eq_getElem (by rw [HN.out]; exact hin)⟩
      obtain ⟨ad, rfl, hadb, c0, c1, c2', c3, c4, c5, c6, c7⟩ := (hr.call hb).range hp
      have HP := Lib.hid hp
      have hBw := (hb.cell (p := ⟨B, 0, none⟩) hlt).trans hB
      have hltw : B < wr.heap.size := Nat.lt_of_lt_of_le hlt hb.size
      obtain ⟨⟨⟨an, ai, az⟩, aq⟩, ⟨⟨bn, bi, bz⟩, bq⟩⟩ := p
      clear hp
      cases hbd : badR t ⟨⟨⟨an, ai, az⟩, aq⟩, ⟨⟨bn, bi, bz⟩, bq⟩⟩
      · go_wp2_with fail
        refine (clo_any t ⟨⟨⟨an, ai, az⟩, aq⟩, ⟨⟨bn, bi, bz⟩, bq⟩⟩ B _ hBw hltw).mono ?_; rintro e w1 ⟨rfl, hb1⟩
        rw [hbd]
        go_wp2
        go_roundw
        case rel => exact ⟨i + 1, by go_num, by omega, any_take_next HP.out HK.out hbd, bt hb hb1⟩
        case measure => simp [intOf]; omega
      · go_wp2_with fail
        refine (clo_any t ⟨⟨⟨an, ai, az⟩, aq⟩, ⟨⟨bn, bi, bz⟩, bq⟩⟩ B _ hBw hltw).mono ?_; rintro e w1 ⟨rfl, hb1⟩
        rw [hbd]
        go_wp2
        go_ret
        exact ⟨_, rfl, by show _ = _; rw [any_take_some HP.out hbd]; simp, bt hb hb1⟩
    · have hin2 : i = n := by omega
      subst hin2
      go_wp2
      go_ret
      exact ⟨_, rfl, by show _ = _; rw [any_take_all HN.out HK.out]; rfl, hb⟩
set_option maxRecDepth 100000 in
set_option maxHeartbeats 400000 in
theorem contf_any (t : Int) (B : Nat) (A : Option Addr) (n c : Nat) (L : List Rg) (w : World) (hr : Rd w w.heap.size A (L.flatMap rangeC)) (hn : L.length = n) (hm : n ≤ 17592186044416) (hB : w.cell? ⟨B, 0, none⟩ = some (.int .i64 t)) (hlt : B < w.heap.size) :
    Calls Try.prog 35 #[.slice A n c, .func (.func 36) #[] #[.pointer (some ⟨B, 0, none⟩)]] w fun e w' => e = .returned (.bool (L.any (badR t))) ∧ Below w.heap.size w w' := by
  go_enter Try.func35, Try.ntmps35
  go_wp2_with fail
  refine (index_any t B A n c L w hr hn hm hB hlt).mono ?_; rintro e w1 ⟨x, rfl, HX, hb1⟩
  go_wp2
  go_ret
  exact ⟨by rw [← HX.out]; rfl, hb1⟩
set_option maxRecDepth 100000 in
set_option maxHeartbeats 400000 in
theorem check_any (t : Int) (A : Option Addr) (n c : Nat) (L : List Rg) (w : World) (hr : Rd w w.heap.size A (L.flatMap rangeC)) (hn : L.length = n) (hm : n ≤ 17592186044416) :
    Calls Try.prog 27 #[.int .i64 t, .slice A n c] w fun e w' => e = .returned (.bool (chkR t L)) ∧ Below w.heap.size w w' := by
  have hA := Blk.new' w 3 #[.int .i64 t]
  have hbel : Below w.heap.size w (w.alloc (.cells #[.int .i64 t] 3)) := (Below.refl _ _).alloc (Nat.le_refl _) _
  have HN := Lib.hid hn
  by_cases h : n ≤ 256
  · have HC : Hid (chkR t L = !L.any (badR t)) := by show _ = _; rw [chkR, hn, decide_eq_true h, Bool.true_and]
    clear hn
    go_enter Try.func27, Try.ntmps27
    go_wp2_with fail
    refine (contf_any t w.heap.size A n c L _ (hr.call hbel) HN.out hm (hA.cellAt 0 rfl) hA.lt).mono ?_; rintro e w1 ⟨rfl, hb1⟩
    go_wp2
    go_ret
    exact ⟨by rw [HC.out]; rfl, bt hbel hb1⟩
  · have HC : Hid (chkR t L = false) := by show _ = _; rw [chkR, hn, decide_eq_false h, Bool.false_and]
    clear hn
    go_enter Try.func27, Try.ntmps27
    go_wp2
    go_ret
    exact ⟨by rw [HC.out]; rfl, hbel⟩
set_option maxRecDepth 100000 in
set_option maxHeartbeats 400000 in
theorem rcheck_any (t : Int) (A : Option Addr) (n c : Nat) (L : List Rg) (w : World) (hr : Rd w w.heap.size A (L.flatMap rangeC)) (hn : L.length = n) (hm : n ≤ 17592186044416) :
    Calls Try.prog 30 #[.int .i64 t, .slice A n c] w fun e w' => e = .returned (.bool (chkR t L)) ∧ Below w.heap.size w w' := by
  have HN := Lib.hid hn
  by_cases h : n ≤ 256
  · have HC : Hid (chkR t L = !L.any (badR t)) := by show _ = _; rw [chkR, hn, decide_eq_true h, Bool.true_and]
    clear hn
    go_enter Try.func30, Try.ntmps30
    go_wp2_with fail
    go_loopw [12] (fun b wr => ∃ (i : Nat), b = .int .i64 (i : Int) ∧ i ≤ n ∧ Hid ((L.take i).any (badR t) = false) ∧ Below w.heap.size w wr) (fun b _ => n - (intOf b).toNat)
    case atStart => exact ⟨0, rfl, by omega, rfl, Below.refl _ _⟩
    case round =>
      obtain ⟨i, rfl, hi, HK, hb⟩ := hrel
      by_cases hin : i < n
      · obtain ⟨p, hp⟩ : ∃ p, L[i]? = some p := ⟨_, List.getElem?_eq_getElem (by rw [HN.out]; exact hin)⟩
        obtain ⟨ad, rfl, hadb, c0, c1, c2', c3, c4, c5, c6, c7⟩ := (hr.call hb).range hp
        have HP := Lib.hid hp
        obtain ⟨⟨⟨an, ai, az⟩, aq⟩, ⟨⟨bn, bi, bz⟩, bq⟩⟩ := p
        clear hp
        by_cases hbd : 0 < cmpR t ⟨⟨an, ai, az⟩, aq⟩ ⟨⟨bn, bi, bz⟩, bq⟩
        · have HB : Hid (badR t ⟨⟨⟨an, ai, az⟩, aq⟩, ⟨⟨bn, bi, bz⟩, bq⟩⟩ = true) := decide_eq_true hbd
          go_wp2_with fail
          refine (rcmp_rank t ⟨⟨an, ai, az⟩, aq⟩ ⟨⟨bn, bi, bz⟩, bq⟩ _).mono ?_; rintro e w1 ⟨rfl, hb1⟩
          have hb2 := bt (bt hb ((Below.refl wr.heap.size wr).alloc (Nat.le_refl _) _)) hb1
          go_wp2
          go_ret
          exact ⟨by rw [HC.out, any_take_some HP.out HB.out]; rfl, hb2⟩
        · have HB : Hid (badR t ⟨⟨⟨an, ai, az⟩, aq⟩, ⟨⟨bn, bi, bz⟩, bq⟩⟩ = false) := decide_eq_false hbd
          go_wp2_with fail
          refine (rcmp_rank t ⟨⟨an, ai, az⟩, aq⟩ ⟨⟨bn, bi, bz⟩, bq⟩ _).mono ?_; rintro e w1 ⟨rfl, hb1⟩
          have hb2 := bt (bt hb ((Below.refl wr.heap.size wr).alloc (Nat.le_refl _) _)) hb1
          go_wp2
          go_roundw
          case rel => exact ⟨i + 1, by go_num, by omega, any_take_next HP.out HK.out HB.out, hb2⟩
          case measure => simp [intOf]; omega
      · have hin2 : i = n := by omega
        subst hin2
        go_wp2
        go_ret
        exact ⟨by rw [HC.out, any_take_all HN.out HK.out]; rfl, hb⟩
  · have HC : Hid (chkR t L = false) := by show _ = _; rw [chkR, hn, decide_eq_false h, Bool.false_and]
    clear hn
    go_enter Try.func30, Try.ntmps30
    go_wp2
    go_ret
    exact ⟨by rw [HC.out]; rfl, Below.refl _ _⟩

end Go.Proofs.Yteknnphjkldehaa
