/-
  PeakOf, meet and Disjoint of layer 27 in the reference.
-/
import Derived.Test.YteknnphjkldehaaDDepth
namespace Go.Proofs.Yteknnphjkldehaa
open Go.RowKit

def pkS (t : Int) (L : List Rg) (d : Nat) (s : Rk × Bool) (r : Rg) : Rk × Bool := if 0 < d ∧ stabC t L r.lo = d ∧ (s.2 = false ∨ cmpR t r.lo s.1 < 0) then (r.lo, true) else s
def pkF (t : Int) (L : List Rg) (d : Nat) (X : List Rg) : Rk × Bool := X.foldl (pkS t L d) (zeroR, false)
def pkR (t : Int) (L : List Rg) : Rk × Bool := pkF t L (depthC t L) L
theorem pkF_next {t : Int} {L X : List Rg} {d i : Nat} {p : Rg} (hp : X[i]? = some p) : pkF t L d (X.take (i + 1)) = pkS t L d (pkF t L d (X.take i)) p := by
  unfold pkF; rw [List.take_add_one, hp, List.foldl_append]; rfl
theorem pk_yes {t : Int} {L : List Rg} {d : Nat} {a : Rk} {f : Bool} {r : Rg} (h : 0 < d ∧ stabC t L r.lo = d ∧ (f = false ∨ cmpR t r.lo a < 0)) : pkS t L d (a, f) r = (r.lo, true) := if_pos h
theorem pk_no {t : Int} {L : List Rg} {d : Nat} {a : Rk} {f : Bool} {r : Rg} (h : ¬ (0 < d ∧ stabC t L r.lo = d ∧ (f = false ∨ cmpR t r.lo a < 0))) : pkS t L d (a, f) r = (a, f) := if_neg h
def meetB (t : Int) (a b : Rg) : Bool := decide (cmpR t a.lo b.hi ≤ 0) && decide (cmpR t b.lo a.hi ≤ 0)

set_option maxRecDepth 100000 in
set_option maxHeartbeats 4000000 in
theorem rpeak_any (t : Int) (A : Option Addr) (n c : Nat) (L : List Rg) (w : World) (hr : Rd w w.heap.size A (L.flatMap rangeC)) (hn : L.length = n) (hm : n ≤ 17592186044416) :
    Calls Try.prog 33 #[.int .i64 t, .slice A n c] w fun e w' => e = .returned (.tuple #[Rv (pkR t L).1, .bool (pkR t L).2]) ∧ Below w.heap.size w w' := by
  have HN := Lib.hid hn
  have hZ := Blk.new' w 33 #[.bool false, .int .i64 0, .string ⟨#[]⟩, .int .i64 0]
  have hbel : Below w.heap.size w (w.alloc (.cells #[.bool false, .int .i64 0, .string ⟨#[]⟩, .int .i64 0] 33)) := (Below.refl _ _).alloc (Nat.le_refl _) _
  have hwl : w.heap.size < (w.alloc (.cells #[.bool false, .int .i64 0, .string ⟨#[]⟩, .int .i64 0] 33)).heap.size := by simp
  have hra := hr.call hbel
  clear hn hr
  go_enter Try.func33, Try.ntmps33
  go_wp2_with fail
  generalize w.alloc (.cells #[.bool false, .int .i64 0, .string ⟨#[]⟩, .int .i64 0] 33) = wa at *
  refine (rdepth_any t A n c L wa hra HN.out hm).mono ?_; rintro e w1 ⟨rfl, hb1⟩
  have hZ1 := hZ.call hb1
  have hr1 := hra.call hb1
  have hbel1 := bt hbel hb1
  have hlt1 : w.heap.size < w1.heap.size := Nat.lt_of_lt_of_le hwl hb1.size
  clear hZ hra hb1 hbel hwl
  have HH : Hid (pkR t L = pkF t L (depthC t L) L) := by show _ = _; rfl
  generalize depthC t L = d at *
  have hN := Blk.new' w1 33 #[.bool false, .int .i64 0, .string ⟨#[]⟩, .int .i64 0]
  go_wp2_with fail
  go_loopw [8, 16] (fun a b wr => ∃ (i : Nat) (at_ : Rk) (f : Bool), b = .int .i64 (i : Int) ∧ a = .bool f ∧ i ≤ n ∧ Blk wr w1.heap.size 33 (rankC at_) ∧ Hid ((at_, f) = pkF t L d (L.take i)) ∧ Below w1.heap.size w1 wr) (fun _ b _ => n - (intOf b).toNat)
  case atStart => exact ⟨0, zeroR, false, rfl, rfl, by omega, hN, rfl, (Below.refl _ _).alloc (Nat.le_refl _) _⟩
  case round =>
    clear hN
    obtain ⟨i, at_, f, rfl, rfl, hi, hO, HK, hb⟩ := hrel
    by_cases hin : i < n
    · obtain ⟨p, hp⟩ : ∃ p, L[i]? = some p := ⟨_, List.getElem?_eq_getElem (by rw [HN.out]; exact hin)⟩
      obtain ⟨ad, rfl, hadb, c0, c1, c2, c3, c4, c5, c6, c7⟩ := (hr1.call hb).range hp
      have HY := fun h => pk_yes (t := t) (L := L) (d := d) (a := at_) (f := f) (r := p) h
      have HX := fun h => pk_no (t := t) (L := L) (d := d) (a := at_) (f := f) (r := p) h
      have HP2 := Lib.hid (pkF_next (t := t) (L := L) (d := d) hp)
      rw [← HK.out] at HP2
      obtain ⟨⟨⟨cn, ci, cz⟩, cq⟩, ⟨⟨dn, di, dz⟩, dq⟩⟩ := p
      obtain ⟨⟨an, ai, az⟩, aq⟩ := at_
      dsimp only at HY HX
      clear hp
      have hO0 := hO.alloc (.cells #[.bool cn, .int .i64 ci, .string cz, .int .i64 cq, .bool dn, .int .i64 di, .string dz, .int .i64 dq] 37)
      have hb0 := bt hb ((Below.refl wr.heap.size wr).alloc (Nat.le_refl _) (.cells #[.bool cn, .int .i64 ci, .string cz, .int .i64 cq, .bool dn, .int .i64 di, .string dz, .int .i64 dq] 37))
      by_cases hd : 0 < d
      · have hdd : decide ((0 : Int) < (d : Int)) = true := by simpa using hd
        go_wp2_with fail
        refine (rstab_any t _ n c L ⟨⟨cn, ci, cz⟩, cq⟩ _ ((hr1.call hb).call ((Below.refl wr.heap.size wr).alloc (Nat.le_refl _) _)) HN.out hm).mono ?_; rintro e w2 ⟨rfl, hb1⟩
        have hR2 := (Blk.new' wr 37 #[.bool cn, .int .i64 ci, .string cz, .int .i64 cq, .bool dn, .int .i64 di, .string dz, .int .i64 dq]).call hb1
        have hO2 := hO0.call hb1
        have hb2 := bt hb0 hb1
        have hne : wr.heap.size ≠ w1.heap.size := by have := hO.lt; omega
        clear hO0 hb0 hb1 hO
        have of := fun j => hO2.frozen j
        have o0 := hO2.cellAt 0 rfl
        have o1 := hO2.cellAt 1 rfl
        have o2 := hO2.cellAt 2 rfl
        have o3 := hO2.cellAt 3 rfl
        have rf := fun j => hR2.frozen j
        have r0 := hR2.cellAt 0 rfl
        have r1 := hR2.cellAt 1 rfl
        have r2 := hR2.cellAt 2 rfl
        have r3 := hR2.cellAt 3 rfl
        generalize stabC t L ⟨⟨cn, ci, cz⟩, cq⟩ = s at *
        by_cases hs : s = d
        · have hss : ((s : Int) == (d : Int)) = true := by simp only [beq_iff_eq]; omega
          cases f
          · have HZ := Lib.hid (HY ⟨hd, hs, .inl rfl⟩)
            clear HY HX
            go_wp2
            go_roundw
            case rel => exact ⟨i + 1, ⟨⟨cn, ci, cz⟩, cq⟩, true, by go_num, rfl, by omega, ((((hO2.set_ 0 (.bool cn)).set_ 1 (.int .i64 ci)).set_ 2 (.string cz)).set_ 3 (.int .i64 cq)), by show _ = _; rw [HP2.out, HZ.out], by repeat' (first | exact hb2 | refine below_set ?_ (Nat.le_refl _) | refine Below.drew ?_)⟩
            case measure => simp [intOf]; omega
          · by_cases h2 : cmpR t ⟨⟨cn, ci, cz⟩, cq⟩ ⟨⟨an, ai, az⟩, aq⟩ < 0
            · have HZ := Lib.hid (HY ⟨hd, hs, .inr h2⟩)
              clear HY HX
              go_wp2_with fail
              refine (rcmp_rank t ⟨⟨cn, ci, cz⟩, cq⟩ ⟨⟨an, ai, az⟩, aq⟩ _).mono ?_; rintro e w3 ⟨rfl, hb4⟩
              have hR3 := hR2.call hb4
              have hO3 := hO2.call hb4
              have hb3 := hb2.trans (hb4.mono hb2.size)
              clear of o0 o1 o2 o3 rf r0 r1 r2 r3
              have of := fun j => hO3.frozen j
              have o0 := hO3.cellAt 0 rfl
              have o1 := hO3.cellAt 1 rfl
              have o2 := hO3.cellAt 2 rfl
              have o3 := hO3.cellAt 3 rfl
              have rf := fun j => hR3.frozen j
              have r0 := hR3.cellAt 0 rfl
              have r1 := hR3.cellAt 1 rfl
              have r2 := hR3.cellAt 2 rfl
              have r3 := hR3.cellAt 3 rfl
              go_wp2
              go_roundw
              case rel => exact ⟨i + 1, ⟨⟨cn, ci, cz⟩, cq⟩, true, by go_num, rfl, by omega, ((((hO3.set_ 0 (.bool cn)).set_ 1 (.int .i64 ci)).set_ 2 (.string cz)).set_ 3 (.int .i64 cq)), by show _ = _; rw [HP2.out, HZ.out], by repeat' (first | exact hb3 | refine below_set ?_ (Nat.le_refl _) | refine Below.drew ?_)⟩
              case measure => simp [intOf]; omega
            · have HZ := Lib.hid (HX (by simp [h2]))
              clear HY HX
              go_wp2_with fail
              refine (rcmp_rank t ⟨⟨cn, ci, cz⟩, cq⟩ ⟨⟨an, ai, az⟩, aq⟩ _).mono ?_; rintro e w3 ⟨rfl, hb4⟩
              have hO3 := hO2.call hb4
              have hb3 := hb2.trans (hb4.mono hb2.size)
              obtain ⟨f, hf⟩ : ∃ f : Bool, f = true := ⟨_, rfl⟩
              rw [← hf] at HK HP2 HZ
              go_wp2
              go_roundw
              case rel => exact ⟨i + 1, ⟨⟨an, ai, az⟩, aq⟩, f, by go_num, by rw [hf], by omega, hO3, by show _ = _; rw [HP2.out, HZ.out], hb3⟩
              case measure => simp [intOf]; omega
        · have hss : ((s : Int) == (d : Int)) = false := by simp only [beq_eq_false_iff_ne]; omega
          have HZ := Lib.hid (HX (by simp [hs]))
          clear HY HX
          go_wp2
          go_roundw
          case rel => exact ⟨i + 1, ⟨⟨an, ai, az⟩, aq⟩, f, by go_num, rfl, by omega, hO2, by show _ = _; rw [HP2.out, HZ.out], hb2⟩
          case measure => simp [intOf]; omega
      · have hdd : decide ((0 : Int) < (d : Int)) = false := by simp only [decide_eq_false_iff_not]; omega
        have HZ := Lib.hid (HX (by omega))
        clear HY HX
        go_wp2
        go_roundw
        case rel => exact ⟨i + 1, ⟨⟨an, ai, az⟩, aq⟩, f, by go_num, rfl, by omega, hO0, by show _ = _; rw [HP2.out, HZ.out], hb0⟩
        case measure => simp [intOf]; omega
    · have hin2 : i = n := by omega
      subst hin2
      obtain ⟨⟨an, ai, az⟩, aq⟩ := at_
      have hZ2 := hZ1.below hb hlt1
      have of := fun j => hO.frozen j
      have o0 := hO.cellAt 0 rfl
      have o1 := hO.cellAt 1 rfl
      have o2 := hO.cellAt 2 rfl
      have o3 := hO.cellAt 3 rfl
      have zf := fun j => hZ2.frozen j
      have z0 := hZ2.cellAt 0 rfl
      have z1 := hZ2.cellAt 1 rfl
      have z2 := hZ2.cellAt 2 rfl
      have z3 := hZ2.cellAt 3 rfl
      rw [show List.take i L = L by rw [← HN.out, List.take_length]] at HK
      go_wp2
      exact bodyPost_ret (v := .tuple #[.agg #[.bool an, .int .i64 ai, .string az, .int .i64 aq], .bool f]) (by simp [results, Try.results33, go_sem, z0, z1, z2, z3]) rfl ⟨by rw [HH.out, ← HK.out], by repeat' (first | exact bt hbel1 hb | refine below_set ?_ (Nat.le_refl _) | refine Below.drew ?_)⟩

end Go.Proofs.Yteknnphjkldehaa
