/-
  Laws of layer 19: ManifestTorn.
-/
import Derived.Test.YtgacjpkgpegcdaaMFile
namespace Go.Proofs.Ytgacjpkgpegcdaa
open Go.RowKit

theorem stands_enc {r : Rc} (hc : chkR r = 0) (hk : keysOk r) (u : List UInt8) : Stands (encR r ++ u) r := ⟨hc, hk, List.prefix_append _ _⟩
theorem fileL_cons (r : Rc) (rs : List Rc) : fileL (r :: rs) = encR r ++ fileL rs := rfl
theorem fileL_mono : ∀ (rs : List Rc) {i j : Nat}, i ≤ j → (fileL (rs.take i)).length ≤ (fileL (rs.take j)).length
  | [], i, j, _ => by simp
  | r :: rs, 0, j, _ => by simp [fileL]
  | r :: rs, i + 1, 0, h => by omega
  | r :: rs, i + 1, j + 1, h => by
    rw [List.take_succ_cons, List.take_succ_cons, fileL_cons, fileL_cons, List.length_append, List.length_append]
    have := fileL_mono rs (i := i) (j := j) (by omega)
    omega
/-- What a scan finds in the beginning of a file of valid records. -/
theorem scan_file : ∀ (rs : List Rc), (∀ r ∈ rs, chkR r = 0 ∧ keysOk r) → ∀ k : Nat, ∃ q, q ≤ rs.length ∧ ScanR ((fileL rs).take k) (rs.take q) (fileL (rs.take q)).length ∧ (fileL (rs.take q)).length ≤ k ∧ (q < rs.length → k < (fileL (rs.take (q + 1))).length)
  | [], _, k => ⟨0, Nat.le_refl _, .stop (no_short (by simp [fileL])), by simp [fileL], fun h => by simp at h⟩
  | r :: rs, hok, k => by
    have hr := hok r (by simp)
    by_cases hk : k < (encR r).length
    · refine ⟨0, Nat.zero_le _, .stop (fun r2 h2 => ?_), Nat.zero_le _, fun _ => ?_⟩
      · rw [fileL_cons, List.take_append_of_le_length (by omega)] at h2
        have h3 : Stands (encR r) r2 := ⟨h2.1, h2.2.1, h2.2.2.trans (List.take_prefix _ _)⟩
        have h4 : Stands (encR r) r := by have := stands_enc hr.1 hr.2 []; rwa [List.append_nil] at this
        have e := stands_uniq h3 h4
        subst e
        have h5 := h2.2.2.length_le
        rw [List.length_take] at h5
        omega
      · rw [List.take_succ_cons, fileL_cons, List.length_append]
        omega
    · obtain ⟨q, h1, h2, h3, h4⟩ := scan_file rs (fun r2 h => hok r2 (List.mem_cons_of_mem _ h)) (k - (encR r).length)
      refine ⟨q + 1, by simpa using h1, ?_, ?_, fun h => ?_⟩
      · rw [fileL_cons, List.take_append, List.take_of_length_le (by omega), List.take_succ_cons, fileL_cons, List.length_append]
        exact .more (stands_enc hr.1 hr.2 _) (by rw [List.drop_left]; exact h2)
      · rw [List.take_succ_cons, fileL_cons, List.length_append]
        omega
      · rw [List.take_succ_cons, fileL_cons, List.length_append]
        have := h4 (by simpa using h)
        omega
theorem scan_whole {rs : List Rc} (hok : ∀ r ∈ rs, chkR r = 0 ∧ keysOk r) : ScanR (fileL rs) rs (fileL rs).length := by
  obtain ⟨q, h1, h2, h3, h4⟩ := scan_file rs hok (fileL rs).length
  rw [List.take_length] at h2
  have hq : q = rs.length := by
    rcases Nat.lt_or_ge q rs.length with h | h
    · have h5 := h4 h
      have h6 := fileL_mono rs (i := q + 1) (j := rs.length) (by omega)
      rw [List.take_length] at h6
      omega
    · omega
  subst hq
  rwa [List.take_length] at h2
theorem flat_take {α : Type} {f : α → List Value} {k : Nat} (hk : ∀ a, (f a).length = k) : ∀ (L : List α) (i : Nat), (L.take i).flatMap f = (L.flatMap f).take (i * k)
  | [], i => by simp
  | a :: L, 0 => by simp
  | a :: L, i + 1 => by
    have h1 : (f a).take (i * k + k) = f a := List.take_of_length_le (by rw [hk]; exact Nat.le_add_left _ _)
    rw [List.take_succ_cons, List.flatMap_cons, List.flatMap_cons, flat_take hk L i, Nat.succ_mul, List.take_append, h1, hk, Nat.add_sub_cancel]
theorem RecsAt.take {w : World} {A : Option Addr} {xs : List RV} (h : RecsAt w A xs) (i : Nat) : RecsAt w A (xs.take i) :=
  ⟨by rw [flat_take (k := 6) (fun _ => rfl)]; exact h.1.take _, fun x hx => h.2 x (List.mem_of_mem_take hx)⟩
theorem take_str (F : List UInt8) (k : Nat) : ((⟨F.toArray⟩ : ByteArray).extract 0 k).data.toList = F.take k := take_mk'
set_option maxRecDepth 100000 in
set_option maxHeartbeats 4000000 in
theorem walk_ManifestTorn (A : Option Addr) (n c : Nat) (zs : List Int) (at_ : Int) (w : World) (hr : Rd w w.heap.size A (zs.map Iv)) (hn : zs.length = n) (hz : ∀ z ∈ zs, (Lit.int .i64 z).wf = true) (_ : n ≤ c) (hb : n * 8 ≤ 140737488351232) (_ : (Lit.int .i64 at_).wf = true) :
    Calls Try.prog 7 #[.slice A n c, .int .i64 at_] w fun e w' => e = .returned (.bool true) ∧ Below w.heap.size w w' := by
  have HFI := Lib.hid (file_any A n c zs w hr hn (wf_i64s hz) (by omega))
  clear hr hn hz hb
  go_enter Try.func7, Try.ntmps7
  go_wp2_with fail
  refine HFI.out.mono ?_; rintro _ w1 ⟨F, rs, B, d, rfl, hF, hok, hl4, hlF, hE, hd, hb1⟩
  have hkl := pickN_lt at_ (show 0 < F.length + 1 by omega)
  have HPK := Lib.hid (pick_any at_ (F.length + 1) w1 (by omega) (by omega))
  have hwl : IntKind.i64.wrap ((F.length : Int) + 1) = ((F.length + 1 : Nat) : Int) := by rw [IntWalk.i64_in _ (by omega)]; omega
  generalize pickN at_ (F.length + 1) = k at *
  obtain ⟨q, hq1, hq2, hq3, hq4⟩ := scan_file rs hok k
  have HIF : Hid (∀ j : Nat, j ≤ rs.length → ((fileL (rs.take j)).length ≤ k ↔ j ≤ q)) := fun j hj => ⟨fun h => by
    rcases Nat.lt_or_ge q j with h5 | h5
    · have h6 := hq4 (by omega)
      have h7 := fileL_mono rs (i := q + 1) (j := j) (by omega)
      omega
    · exact h5, fun h => Nat.le_trans (fileL_mono rs h) hq3⟩
  have HSK : Hid (ScanR (F.take k) (rs.take q) (fileL (rs.take q)).length) := by
    show ScanR _ _ _
    rw [hF]; exact hq2
  have HSW : Hid (ScanR F rs F.length) := by
    show ScanR _ _ _
    rw [hF]; exact scan_whole hok
  have HOK := Lib.hid hok
  have hlen := endsL_len rs
  have HGE : Hid (∀ j : Nat, j ≤ rs.length → (endsL rs)[j]? = some ((fileL (rs.take j)).length : Int)) := fun j hj => by
    unfold endsL
    rw [List.getElem?_map, List.getElem?_range (by omega)]
    rfl
  clear hF hok hq2 hq3 hq4 hlen HFI
  generalize hqr : rs.length = Q at *
  have HQR := Lib.hid hqr
  clear hqr
  go_wp2_with fail
  try rw [hwl]
  refine HPK.out.mono ?_; rintro _ _ ⟨rfl, rfl⟩
  clear hwl HPK
  go_wp2_with fail
  refine (scan_any _ _ (by rw [ByteArray.size_extract]; omega)).mono ?_; rintro _ w2 ⟨C, e, m, xs, rfl, he, hm, hRA, hokx, hS, hb2⟩
  rw [take_str] at hS
  obtain ⟨e1, rfl⟩ := hS.one HSK.out
  have hxq : xs.length = q := by
    have h5 := congrArg List.length e1
    rw [List.length_map, List.length_take, HQR.out] at h5
    omega
  rw [hxq] at he ⊢
  have HRA := Lib.hid hRA
  have HOX := Lib.hid hokx
  have HE1 := Lib.hid e1
  have HXQ := Lib.hid hxq
  have HEN := Lib.hid (hE.call hb2)
  clear hRA hokx hS e1 hxq hm hE HSK
  generalize hmm : (fileL (rs.take q)).length = M at *
  have HMM := Lib.hid hmm
  clear hmm
  go_wp2_with fail
  go_loopw [10, 11, 12, 34] (fun a _ _ b wr => ∃ j : Nat, b = .int .i64 (j : Int) ∧ j ≤ Q + 1 ∧ a = .int .i64 ((min (j - 1) q : Nat) : Int) ∧ wr = w2) (fun _ _ _ b _ => Q + 1 - (intOf b).toNat)
  case atStart => exact ⟨0, rfl, by omega, by simp, rfl⟩
  case round =>
    obtain ⟨j, rfl, hj, rfl, rfl⟩ := hrel
    by_cases hjq : j < Q + 1
    · have hgj := HGE.out j (by omega)
      obtain ⟨ad, rfl, _, cj⟩ := HEN.out.at_ (j := j) (u := Iv ((fileL (rs.take j)).length : Int)) (by rw [List.getElem?_map, hgj]; rfl)
      have hif := HIF.out j (by omega)
      clear hgj
      generalize (fileL (rs.take j)).length = ej at *
      by_cases hjw : j ≤ q
      · have hle : decide ((ej : Int) ≤ (k : Int)) = true := decide_eq_true (by have := hif.2 hjw; omega)
        go_wp2
        go_roundw
        case rel => exact ⟨j + 1, by go_num, by omega, by congr 2; omega, by trivial⟩
        case measure => simp [intOf]; omega
      · have hle : decide ((ej : Int) ≤ (k : Int)) = false := decide_eq_false (by have : ¬ ej ≤ k := fun h => hjw (hif.1 h); omega)
        go_wp2
        go_roundw
        case rel => exact ⟨j + 1, by go_num, by omega, by congr 2; omega, by trivial⟩
        case measure => simp [intOf]; omega
    · have hjQ : j = Q + 1 := by omega
      subst hjQ
      have hmin : min (Q + 1 - 1) q = q := by omega
      rw [hmin]
      clear hmin
      go_wp2_with fail
      refine (rscan_any ⟨F.toArray⟩ _ (by show F.toArray.size ≤ _; simp; omega)).mono ?_; rintro _ w3 ⟨D, dc, m2, ys, rfl, hdc, hm2, hRY, hoky, hS2, hb3⟩
      obtain ⟨e2, rfl⟩ := hS2.one HSW.out
      have hyq : ys.length = Q := by
        have h5 := congrArg List.length e2
        rw [List.length_map, HQR.out] at h5
        exact h5
      rw [hyq] at hdc ⊢
      have HRY := Lib.hid hRY
      have HE2 := Lib.hid e2
      clear hRY hoky hS2 e2 hyq hm2
      have hne : (((Q : Int)) != (Q : Int) + 1 - 1) = false := by simp
      have hgq := HGE.out q (by omega)
      rw [HMM.out] at hgq
      have HEN3 := Lib.hid (HEN.out.call hb3)
      go_wp2_with fail
      refine (awake_any _).mono ?_; rintro _ w4 ⟨rfl, hb4⟩
      obtain ⟨ad, rfl, _, cj⟩ := (HEN3.out.call hb4).at_ (j := q) (u := Iv (M : Int)) (by rw [List.getElem?_map, hgq]; rfl)
      clear hgq
      go_wp2_with fail
      refine (same_recs C D q e dc xs (ys.take q) _ ((HRA.out.call hb3).call hb4) ((HRY.out.call hb4).take q) (by rw [HE1.out, List.map_take, HE2.out]) (fun x hx => (HOX.out x hx).1) HXQ.out (by omega)).mono ?_; rintro _ w5 ⟨rfl, hb5⟩
      go_wp2
      go_ret
      exact ⟨rfl, bt (bt (bt (bt hb1 hb2) hb3) hb4) hb5⟩

end Go.Proofs.Ytgacjpkgpegcdaa
