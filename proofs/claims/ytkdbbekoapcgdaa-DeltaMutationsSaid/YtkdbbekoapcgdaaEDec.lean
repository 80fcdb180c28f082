/-
  delta.Decode.
-/
import Derived.Test.YtkdbbekoapcgdaaEOff
import Derived.Test.YtkdbbekoapcgdaaTwo
namespace Go.Proofs.Ytkdbbekoapcgdaa
open Go.RowKit

def DecPost (w : World) (r : List Int × Int) (e : Ending) (w' : World) : Prop :=
  ∃ (v : Value) (xs : List Int) (err : Int), e = .returned (.tuple #[v, .int .i64 err]) ∧ r = (xs, err) ∧ w'.ownsRow w.heap.size 2 1 v xs.length (xs.map Iv) ∧ (∀ z ∈ xs, I64 z) ∧ Below w.heap.size w w'
theorem dec_nil {w w' : World} {r : List Int × Int} {err : Int} (h : r = ([], err)) (hb : Below w.heap.size w w') : DecPost w r (.returned (.tuple #[.slice none 0 0, .int .i64 err])) w' :=
  ⟨_, [], err, rfl, h, World.ownsRow_nil _ _ _ _, by simp, hb⟩
def lenOf (v : Value) : Nat := match v with | .slice _ n _ => n | _ => 0
theorem own_lit1 (w : World) (z : Int) : Own w (w.alloc (.cells #[Iv z] 2)) 2 1 (.slice (some ⟨w.heap.size, 0, none⟩) 1 1) ([z] : List Int).length (([z] : List Int).map Iv) :=
  ⟨(Blk.new w 2 [Iv z]).own rfl (Nat.le_refl _) (by unfold maxLen; omega), (Below.refl _ _).alloc (Nat.le_refl _) _⟩
theorem last_at {l : List Int} (h : 0 < l.length) : l[l.length - 1]? = some (l.getLastD 0) := by
  rw [← List.getLast?_eq_getElem?]
  cases l with
  | nil => simp at h
  | cons a t => simp [List.getLast?_cons]
theorem full_str {s : ByteArray} (h : ¬ s = ⟨#[]⟩) : s.toList.isEmpty = false := by
  cases e : s.toList.isEmpty with
  | false => rfl
  | true => exact absurd (by apply ByteArray.ext; apply Array.toList_inj.1; rw [Lib.toList_data] at e; simpa using e) h
def DecInv (w : World) (s : List UInt8) (n : Nat) (a b : Value) (wr : World) : Prop :=
  ∃ (i f : Nat) (acc : List Int), a = .int .i64 (i : Int) ∧ 1 ≤ acc.length ∧ acc.length ≤ n ∧ i ≤ s.length ∧ n < f + acc.length ∧ Own w wr 2 1 b acc.length (acc.map Iv) ∧ (∀ z ∈ acc, I64 z) ∧ decGo s n f acc i = decR s n

set_option maxRecDepth 100000 in
set_option maxHeartbeats 1000000 in
theorem decode_out (s : ByteArray) (n : Int) (w : World) (h : n ≤ 0 ∨ 4096 < n) :
    Calls Try.prog 15 #[.string s, .int .i64 n] w (DecPost w (decR s.data.toList n)) := by
  by_cases h1 : n < 0
  · have HD := Lib.hid (decR_out (s := s.data.toList) (n := n) (.inl h1))
    go_enter Try.func15, Try.ntmps15
    go_wp2
    go_ret2
    exact dec_nil HD.out (Below.refl _ _)
  · by_cases h2 : 4096 < n
    · have HD := Lib.hid (decR_out (s := s.data.toList) (n := n) (.inr h2))
      go_enter Try.func15, Try.ntmps15
      go_wp2
      go_ret2
      exact dec_nil HD.out (Below.refl _ _)
    · have h0 : n = 0 := by omega
      subst h0
      by_cases hs : s = ⟨#[]⟩
      · subst hs
        clear h
        go_enter Try.func15, Try.ntmps15
        go_wp2
        go_ret2
        exact dec_nil decR_none (Below.refl _ _)
      · have hbs := full_str hs
        have HD := Lib.hid (decR_full (s := s.data.toList) (fun e => hs (by apply ByteArray.ext; apply Array.toList_inj.1; exact e)))
        clear h hs
        go_enter Try.func15, Try.ntmps15
        go_wp2
        go_ret2
        exact dec_nil HD.out (Below.refl _ _)

set_option maxRecDepth 100000 in
set_option maxHeartbeats 1000000 in
theorem decode_in (s : ByteArray) (n : Nat) (w : World) (hsz : s.size ≤ 1000000000000000) (h0 : 0 < n) (hn : n ≤ 4096) :
    Calls Try.prog 15 #[.string s, .int .i64 (n : Int)] w (DecPost w (decR s.data.toList n)) := by
  have hsl := Lib.hid (size_list s)
  have hget := fun W => get_any s ((0 : Nat) : Int) W hsz
  have hd0 : ((n : Int) == 0) = false := by simp; omega
  rcases getL_cases s.data.toList ((0 : Nat) : Int) with ⟨z, a0, m, ha, hg, hU, hm1, hle, _⟩ | ⟨e, he, hg⟩
  · simp only [hg] at hget
    have hat : a0 = 0 := by omega
    subst hat
    rw [hsl.out] at hle
    rw [Nat.zero_add] at hle hget hg
    have HG := Lib.hid hget
    have HE := Lib.hid (decR_in h0 hn hg).symm
    clear hget hg ha hm1
    go_enter Try.func15, Try.ntmps15
    go_wp2_with fail
    refine (HG.out _).mono ?_; rintro e w1 ⟨rfl, rfl⟩
    go_wp2_with fail
    refine (zag_any z _ hU).mono ?_; rintro e w2 ⟨rfl, rfl⟩
    have hst := own_lit1 w (zagI z)
    have hz64 := zagI_I64 hU
    generalize zagI z = z0 at *
    go_wp2_with fail
    generalize w.alloc (.cells #[Iv z0] 2) = w0 at *
    have HS : DecInv w s.data.toList n (.int .i64 (m : Int)) (.slice (some ⟨w.heap.size, 0, none⟩) 1 1) w0 := ⟨m, n + 1, [z0], rfl, Nat.le_refl _, by simp; omega, by rw [hsl.out]; exact hle, by simp; omega, hst, by simp; exact hz64, HE.out⟩
    clear hst HE
    go_loopw [7, 9] (fun a b wr => DecInv w s.data.toList n a b wr) (fun _ b _ => n - lenOf b)
    case atStart => exact HS
    case round =>
      clear HS
      obtain ⟨i, f, acc, rfl, hl1, hln, his, hf, hO, hI, hE⟩ := hrel
      have HI := Lib.hid hI
      have HE := Lib.hid hE
      clear hI hE
      rw [hsl.out] at his
      obtain ⟨B, cp, rfl, hcp⟩ := own_form hO.1
      by_cases hlt : acc.length < n
      · obtain ⟨g, rfl⟩ : ∃ g, f = g + 1 := ⟨f - 1, by omega⟩
        obtain ⟨K, hK⟩ : ∃ K, K = min 32 (n - acc.length) := ⟨_, rfl⟩
        have hmn : min (32 : Int) ((n : Int) - (acc.length : Int)) = (K : Int) := by omega
        have hoff := fun W => offsets_any s i K W hsz (by omega) (by omega)
        rcases offsL_cases s.data.toList i K with ⟨d, a2, ho, hdl, ha2, hdI⟩ | ⟨e, he, ho⟩
        · simp only [ho] at hoff
          have HO := Lib.hid hoff
          have HE2 := Lib.hid ((decGo_next hlt (by rw [← hK]; exact ho)).symm.trans HE.out)
          have HD := Lib.hid (⟨hdl, hdI⟩ : d.length = K ∧ ∀ z ∈ d, I64 z)
          have hKn : acc.length + K ≤ n := by omega
          have hK0 : 0 < K := by omega
          clear hoff ho HE hK hdl hdI
          go_wp2_with fail
          refine (HO.out _).mono ?_; rintro e w3 ⟨v3, rfl, ho3, hb3⟩
          obtain ⟨C, c3, rfl, hc3⟩ := own_form ho3
          have hrd := RdA.new hO ho3
          have hO3 := hO.call hb3
          rw [HD.out.1] at hc3
          rw [HD.out.1]
          clear hO ho3
          go_wp2_with fail
          go_loopw [9, 63] (fun a b wx => ∃ j : Nat, b = .int .i64 (j : Int) ∧ j ≤ K ∧ Own w wx 2 1 a (acc.length + j) ((sumsL acc (d.take j)).map Iv) ∧ RdA wx a C (d.map Iv)) (fun _ b _ => n - (intOf b).toNat)
          case atStart => exact ⟨0, rfl, by omega, by simpa [sumsL_nil] using hO3, hrd⟩
          case round =>
            clear hO3 hrd
            obtain ⟨j, rfl, hj, hO4, hrd⟩ := hrel
            obtain ⟨D, c4, rfl, hc4⟩ := own_form hO4.1
            by_cases hjk : j < K
            · obtain ⟨v, hv⟩ : ∃ v, d[j]? = some v := ⟨_, List.getElem?_eq_getElem (by rw [HD.out.1]; exact hjk)⟩
              obtain ⟨bd, rfl, _, cv⟩ := hrd.at_ (j := j) (u := Iv v) (by rw [List.getElem?_map, hv]; rfl)
              have hsl2 : (sumsL acc (d.take j)).length = acc.length + j := by rw [sumsL_len, List.length_take, HD.out.1, Nat.min_eq_left hj]
              have hla := last_at (l := sumsL acc (d.take j)) (by omega)
              have HV := Lib.hid (sumsL_next (l := acc) hv)
              rw [hsl2] at hla
              generalize (sumsL acc (d.take j)).getLastD 0 = x at *
              obtain ⟨ld, rfl, _, cx⟩ := (Rd.of_own hO4.1).at_ (j := acc.length + j - 1) (u := Iv x) (by rw [List.getElem?_map, hla]; rfl)
              have q1 : (1 : Int) ≤ (acc.length : Int) + (j : Int) := by omega
              have q2 : ((acc.length : Int) + (j : Int) - 1).toNat = acc.length + j - 1 := by omega
              clear hv hla hsl2
              go_wp2_with (at_builtin; refine own_one2 hO4 i64s rfl (by decide) rfl (one_i64 _) (by omega) (by unfold maxLen; omega) ?_ rfl _ _ rfl rfl rfl)
              intro v' w' ⟨hO5, hk5⟩
              have hrd5 := hk5 _ _ hrd
              go_wp2
              go_roundw
              case rel => exact ⟨j + 1, by go_num, by omega, by rw [HV.out, List.map_append]; exact hO5, hrd5⟩
              case measure => simp [intOf]; omega
            · have hjk2 : j = K := by omega
              subst hjk2
              have hdt : d.take j = d := by rw [List.take_of_length_le (by rw [HD.out.1]; exact Nat.le_refl _)]
              rw [hdt] at hO4
              have hln2 : (sumsL acc d).length = acc.length + j := by rw [sumsL_len, HD.out.1]
              go_wp2_with fail
              exact ⟨⟨a2, g, sumsL acc d, rfl, by omega, by omega, ha2, by omega, by rw [hln2]; exact hO4, sumsL_I64 HI.out d, HE2.out⟩, by show n - (acc.length + j) < n - acc.length; omega⟩
        · simp only [ho] at hoff
          have HO := Lib.hid hoff
          have HL := Lib.hid (HE.out.symm.trans (decGo_err hlt (by rw [← hK]; exact ho) he))
          have hbe : (e != 0) = true := by simpa using he
          have hKn : acc.length + K ≤ n := by omega
          clear hoff ho he hK HE
          go_wp2_with fail
          refine (HO.out _).mono ?_; rintro e1 w3 ⟨v3, rfl, ho3, hb3⟩
          go_wp2
          go_ret2
          exact dec_nil HL.out (bt hO.2 hb3)
      · obtain ⟨g, rfl⟩ : ∃ g, f = g + 1 := ⟨f - 1, by omega⟩
        have hnl : n ≤ acc.length := by omega
        by_cases hend : i < s.size
        · have HL := Lib.hid (HE.out.symm.trans (decGo_more hnl (by rw [hsl.out]; exact hend)))
          go_wp2
          go_ret2
          exact dec_nil HL.out hO.2
        · have HL := Lib.hid (HE.out.symm.trans (decGo_done hnl (by rw [hsl.out]; exact hend)))
          go_wp2
          go_ret2
          exact ⟨_, acc, 0, rfl, HL.out, hO.1, HI.out, hO.2⟩
  · simp only [hg] at hget
    have HG := Lib.hid hget
    have HL := Lib.hid (decR_err h0 hn hg he)
    have hbe : (e != 0) = true := by simpa using he
    clear hget hg he
    go_enter Try.func15, Try.ntmps15
    go_wp2_with fail
    refine (HG.out _).mono ?_; rintro e1 w1 ⟨rfl, rfl⟩
    go_wp2
    go_ret2
    exact dec_nil HL.out (Below.refl _ _)

theorem decode_any (s : ByteArray) (n : Int) (w : World) (hsz : s.size ≤ 1000000000000000) :
    Calls Try.prog 15 #[.string s, .int .i64 n] w (DecPost w (decR s.data.toList n)) := by
  by_cases h : n ≤ 0 ∨ 4096 < n
  · exact decode_out s n w h
  · obtain ⟨m, rfl⟩ := Int.eq_ofNat_of_zero_le (show 0 ≤ n by omega)
    exact decode_in s m w hsz (by omega) (by omega)

end Go.Proofs.Ytkdbbekoapcgdaa
