/-
  delta.Encode, told where it is given one small number, or two that rise a little.
-/
import Derived.Test.YtodegmphcjgipaaGreatDoorTRng
import Derived.Test.YtodegmphcjgipaaGreatDoorTRange
import Derived.Test.YtodegmphcjgipaaGreatDoorEEnc2
namespace Go.Proofs.YtodegmphcjgipaaGreatDoor
namespace Ev
open Go Go.RowKit

theorem dEnc_some {l : List V} {s : List Nat} (h : dEnc l = some s) : (∃ x : Nat, l = [.int .i64 (x : Int)] ∧ x < 64 ∧ s = [2 * x]) ∨ ∃ x y : Nat, l = [.int .i64 (x : Int), .int .i64 (y : Int)] ∧ x < 64 ∧ x ≤ y ∧ y - x < 64 ∧ s = [2 * x, 2 * (y - x), 0] := by
  obtain ⟨v, h1, h2⟩ := ob_some h
  obtain ⟨k, a, rfl, h3⟩ := V.onInt_some h2
  obtain ⟨h4, h5⟩ := bi_none h3
  obtain ⟨x, rfl, h6⟩ := nat?_some h5
  obtain ⟨h7, h8⟩ := bi_none h6
  have hx := blt_t h7
  have hk := keq_t h4
  subst hk
  rw [lget_eq] at h1
  cases h9 : Nat.beq (len l) 1 with
  | true =>
    rw [h9, bi_t] at h8
    have hl := beq_t h9
    rw [len_eq] at hl
    match l, hl with
    | [u], _ =>
      simp at h1; subst h1
      cases h8
      exact .inl ⟨x, rfl, hx, rfl⟩
  | false =>
    rw [h9, bi_f] at h8
    obtain ⟨h10, h11⟩ := bi_none h8
    obtain ⟨u, h12, h13⟩ := ob_some h11
    obtain ⟨j, b, rfl, h14⟩ := V.onInt_some h13
    obtain ⟨h15, h16⟩ := bi_none h14
    obtain ⟨y, rfl, h17⟩ := nat?_some h16
    obtain ⟨h18, h19⟩ := bi_none h17
    obtain ⟨h20, h21⟩ := bi_none h19
    have hj := keq_t h15
    subst hj
    have hl := beq_t h10
    rw [len_eq] at hl
    rw [lget_eq] at h12
    match l, hl with
    | [u, v], _ =>
      simp at h1 h12; subst h1 h12
      cases h21
      exact .inr ⟨x, y, rfl, hx, ble_t h18, blt_t h20, rfl⟩

theorem putL_small {x : Nat} (h : x < 64) : putL (zigN (x : Int)) = [UInt8.ofNat (2 * x)] := by
  have e : zigN (x : Int) = 2 * x := by unfold zigN; rw [if_neg (by omega)]; omega
  rw [e]
  unfold putL
  rw [if_pos (by omega)]
theorem toNat_small {x : Nat} (h : x < 256) : (UInt8.ofNat x).toNat = x := by simp; omega
theorem encD_one {x : Nat} (h : x < 64) : (encD [(x : Int)]).map UInt8.toNat = [2 * x] := by
  have e : encD [(x : Int)] = putL (zigN (x : Int)) := by
    unfold encD
    rw [if_neg (by simp)]
    simp [diffs, encB]
  rw [e, putL_small h]
  simp only [List.map_cons, List.map_nil]
  rw [toNat_small (by omega)]
theorem blockL_one {d : Nat} (h : d < 64) : blockL [(d : Int)] = [UInt8.ofNat (2 * d), 0] := by
  have h1 : minI [(d : Int)] = (d : Int) := rfl
  have h2 : offs [(d : Int)] = [0] := by simp [offs, h1]
  have hw : widthN 0 = 0 := by unfold widthN; rfl
  have h3 : maxW [0] = 0 := by show max 0 (widthN 0) = 0; rw [hw]; rfl
  unfold blockL
  rw [h1, h2, h3, putL_small h]
  simp [packL, packB]
theorem encD_two {x y : Nat} (h : x < 64) (hy : x ≤ y) (hd : y - x < 64) : (encD [(x : Int), (y : Int)]).map UInt8.toNat = [2 * x, 2 * (y - x), 0] := by
  have hdf : diffs [(x : Int), (y : Int)] = [((y - x : Nat) : Int)] := by
    have e : diffA [(x : Int), (y : Int)] 0 = ((y - x : Nat) : Int) := by
      show wrap64 ((y : Int) - (x : Int)) = _
      have : (y : Int) - (x : Int) = ((y - x : Nat) : Int) := by omega
      rw [this]
      unfold wrap64
      omega
    simp [diffs, List.range_succ, e]
  have e : encD [(x : Int), (y : Int)] = putL (zigN (x : Int)) ++ blockL [((y - x : Nat) : Int)] := by
    unfold encD
    rw [if_neg (by simp), hdf]
    simp [encB, part]
  rw [e, putL_small h, blockL_one hd]
  simp only [List.map_cons, List.map_nil, List.cons_append, List.nil_append]
  rw [toNat_small (by omega), toNat_small (by omega)]
  rfl

theorem sums_delta {T : Tab} : Sums Tryz.prog T 277 sumDelta := by
  intro W args st v st' h ρ w xs hR hx
  have h' : one? args (fun a => bi (isNils a) (some (Ret.val (.str []) st)) (a.onSlice fun b o n _ _ => ob (st.heap.get b) fun bl => ob (rd n bl.cells o) fun l => ob (dEnc l) fun s => some (.val (.str s) st))) = some (.val v st') := retO_val h
  obtain ⟨a, rfl, h2⟩ := one?_some h'
  obtain ⟨X, rfl, hX⟩ := one_arg hx
  cases hn : isNils a with
  | true =>
    rw [hn, bi_t] at h2
    cases h2
    have ha : a = .nils := by
      have q : nilTag a = 2 := beq_t hn
      cases a <;> first | rfl | (cases q; done)
    subst ha
    obtain rfl : X = .slice none 0 0 := by cases hX; rfl
    refine (encode_none none 0 0 w (.inl rfl)).mono fun e w' he => ?_
    obtain ⟨rfl, hb⟩ := he
    exact ⟨ρ, Grow.refl _ _, hR.call hb, str_mk rfl⟩
  | false =>
    rw [hn, bi_f] at h2
    obtain ⟨b, o, n, c, es, rfl, h3⟩ := V.onSlice_some h2
    obtain ⟨bl, h4, h5⟩ := ob_some h3
    obtain ⟨l, h6, h7⟩ := ob_some h5
    obtain ⟨s, h8, h9⟩ := ob_some h7
    cases h9
    obtain ⟨L, y, c2, hL, hy, hnc, hcc, hbd, rfl⟩ := slice_inv hX
    obtain ⟨hlen, hrd⟩ := rd_some n h6
    obtain ⟨zs, hzs, hzl, hz64, hs⟩ : ∃ zs : List Int, l = zs.map (fun z => V.int .i64 z) ∧ 0 < zs.length ∧ (∀ z ∈ zs, I64 z) ∧ s = (encD zs).map UInt8.toNat := by
      rcases dEnc_some h8 with ⟨x, rfl, k1, rfl⟩ | ⟨x, y, rfl, k1, k2, k3, rfl⟩
      · exact ⟨[(x : Int)], rfl, by simp, fun z hz => by simp at hz; subst hz; unfold I64; omega, (encD_one k1).symm⟩
      · exact ⟨[(x : Int), (y : Int)], rfl, by simp, fun z hz => by simp at hz; rcases hz with rfl | rfl <;> (unfold I64; omega), (encD_two k1 k2 k3).symm⟩
    subst hzs
    have hzn : zs.length = n := by simpa using hlen
    have hy' : y = L.d + o := hy.resolve_right (by omega)
    subst hy'
    have hr : Rd w w.heap.size (some ⟨L.r, L.d + o, none⟩) (zs.map Iv) := by
      refine .inr ⟨_, rfl, hR.lt h4 hL, fun j u hj => ?_⟩
      have hlt : j < n := by
        have := lt_of_get hj
        simp at this; omega
      obtain ⟨q, q1, q2⟩ := hrd j hlt
      rw [List.getElem?_map] at hj q2
      obtain ⟨z, hz, rfl⟩ := Option.map_eq_some_iff.1 hj
      rw [hz] at q2
      have q2' : V.int .i64 z = q := by simpa using q2
      subst q2'
      obtain ⟨-, u, hu, hur⟩ := hR.cells b bl L h4 hL (o + j) _ q1
      obtain rfl := int_inv hur
      rw [← hu]
      congr 1
      unfold Addr.add
      split <;> simp_all
      omega
    refine (encode_any _ n c2 zs w hr hzn (by omega) hz64).mono fun e w' he => ?_
    obtain ⟨rfl, hb⟩ := he
    exact ⟨ρ, Grow.refl _ _, hR.call hb, str_mk (by rw [hs])⟩
end Ev
end Go.Proofs.YtodegmphcjgipaaGreatDoor
