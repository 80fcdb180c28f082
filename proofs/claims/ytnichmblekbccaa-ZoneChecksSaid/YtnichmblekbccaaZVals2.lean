/-
  The maker of one value.
-/
import Derived.Test.YtnichmblekbccaaZVals
namespace Go.Proofs.Ytnichmblekbccaa
open Go.RowKit

def ValuePost (w : World) (ty : Int) (nl : Bool) (e : Ending) (w' : World) : Prop := ∃ v : Vl, (okV ty v ∧ (v.null = true → nl = true)) ∧ e = .returned (Vv v) ∧ Below w.heap.size w w'
set_option maxRecDepth 100000 in
set_option maxHeartbeats 1000000 in
theorem kvalue_any (k : Nat) (hk : k < 5) (nl : Bool) (A : Option Addr) (n c : Nat) (zs : List Int) (w : World) (hr : Rd w w.heap.size A (zs.map Iv)) (hn : zs.length = n) (hz : ∀ z ∈ zs, I64 z) (hm : n ≤ 17592186044416) :
    Calls Try.prog 19 #[colV (1 + (k : Int)) nl, .slice A n c] w (ValuePost w (1 + (k : Int)) nl) := by
  generalize hty : (1 + (k : Int)) = ty
  have HTY := Lib.hid hty
  clear hty
  dsimp only [colV]
  have hC := (Blk.new' w 32 #[.string ⟨#[120]⟩, .int .i64 ty, .int .i64 0, .bool nl]).alloc (.cells #[.bool false, .int .i64 0, .string ⟨#[]⟩] 23)
  have hR := Blk.new' (w.alloc (.cells #[.string ⟨#[120]⟩, .int .i64 ty, .int .i64 0, .bool nl] 32)) 23 #[.bool false, .int .i64 0, .string ⟨#[]⟩]
  have s1 : (w.alloc (.cells #[.string ⟨#[120]⟩, .int .i64 ty, .int .i64 0, .bool nl] 32)).heap.size = w.heap.size + 1 := by simp
  rw [s1] at hR
  clear s1
  have hbel : Below w.heap.size w ((w.alloc (.cells #[.string ⟨#[120]⟩, .int .i64 ty, .int .i64 0, .bool nl] 32)).alloc (.cells #[.bool false, .int .i64 0, .string ⟨#[]⟩] 23)) := ((Below.refl _ _).alloc (Nat.le_refl _) _).alloc (by simp) _
  have hr1 := hr.call hbel
  have HNZ : Hid (zs.length = n ∧ ∀ z ∈ zs, I64 z) := ⟨hn, hz⟩
  clear hr hn hz
  go_enter Try.func19, Try.ntmps19
  go_upto_region 1 with fail
  generalize (w.alloc (.cells #[.string ⟨#[120]⟩, .int .i64 ty, .int .i64 0, .bool nl] 32)).alloc (.cells #[.bool false, .int .i64 0, .string ⟨#[]⟩] 23) = wa at *
  have MK : Hid (∀ w', Below wa.heap.size wa w' → (Below wa.heap.size wa w' ∧ w'.cell? ⟨w.heap.size, 0, none⟩ = some (.string ⟨#[120]⟩) ∧ w'.cell? ⟨w.heap.size, 1, none⟩ = some (.int .i64 ty) ∧ w'.cell? ⟨w.heap.size, 2, none⟩ = some (.int .i64 0) ∧ w'.cell? ⟨w.heap.size, 3, none⟩ = some (.bool nl))) := fun w' h => ⟨h, (hC.call h).cellAt 0 rfl, (hC.call h).cellAt 1 rfl, (hC.call h).cellAt 2 rfl, (hC.call h).cellAt 3 rfl⟩
  have hB : Below wa.heap.size wa wa.drew := Below.drew (Below.refl _ _)
  refine wp_region_L (fun l w' => l.getD 4 false = false → (Below wa.heap.size wa w' ∧ w'.cell? ⟨w.heap.size, 0, none⟩ = some (.string ⟨#[120]⟩) ∧ w'.cell? ⟨w.heap.size, 1, none⟩ = some (.int .i64 ty) ∧ w'.cell? ⟨w.heap.size, 2, none⟩ = some (.int .i64 0) ∧ w'.cell? ⟨w.heap.size, 3, none⟩ = some (.bool nl))) (by kernel_rfl) ?_
  generalize wa.drew = wx at *
  have HS : Hid (∀ l : Array Bool, l.getD 4 false = false → (fun w' => Below wa.heap.size wa w' ∧ w'.cell? ⟨w.heap.size, 0, none⟩ = some (.string ⟨#[120]⟩) ∧ w'.cell? ⟨w.heap.size, 1, none⟩ = some (.int .i64 ty) ∧ w'.cell? ⟨w.heap.size, 2, none⟩ = some (.int .i64 0) ∧ w'.cell? ⟨w.heap.size, 3, none⟩ = some (.bool nl)) wx) := fun l _ => MK.out _ hB
  refine wpAnyL_takeD (fun l => l.getD 4 false = false) (i := 0) (v := .slice A n c) (some 5) rfl rfl (by kernel_rfl) (by kernel_rfl) (by kernel_rfl) (fun _ _ _ h => h) (fun l j hc hi hj hne => (getD_set_ne false (waits_ne (k := 4) hi hj (by kernel_rfl))).trans hc) (fun l w' _ => by rw [getD_set_ne false (by decide)]) rfl (Or.inl ⟨by rfl, fun w' hw' => by go_simp⟩) (HS.out _) ?_
  simp only [Act.put, List.setIfInBounds_toArray, List.set_cons_zero, List.set_cons_succ]
  refine wpAnyL_takeD (fun l => l.getD 4 false = false) (i := 2) (v := .agg #[.string ⟨#[120]⟩, .int .i64 ty, .int .i64 0, .bool nl]) (some 7) rfl rfl (by kernel_rfl) (by kernel_rfl) (by kernel_rfl) (fun _ _ _ h => h) (fun l j hc hi hj hne => (getD_set_ne false (waits_ne (k := 4) hi hj (by kernel_rfl))).trans hc) (fun l w' _ => by rw [getD_set_ne false (by decide)]) rfl (Or.inl ⟨by rfl, fun w' hw' => by obtain ⟨l, hc, hl⟩ := hw'; obtain ⟨_, k0, k1, k2, k3⟩ := hl hc; go_simp⟩) (HS.out _) ?_
  simp only [Act.put, List.setIfInBounds_toArray, List.set_cons_zero, List.set_cons_succ]
  clear HS
  refine wpAnyL_one (i := 1) (by decide +kernel) ?_
  refine wpOp_go (o := _) rfl (fun K hK => ?_)
  go_simp
  go_at_call 28
  refine (from_any A n c wx).mono ?_; rintro e w' ⟨rfl, rfl⟩
  have hs := Src.new (c := c) (hr1.call hB) HNZ.out.1 HNZ.out.2 hm
  have hle : w.heap.size ≤ wx.heap.size := by have := hbel.size; have := hB.size; omega
  have hB2 := hB.alloc hB.size (.cells #[.slice A n c, .int .i64 0] 70)
  refine hK _ _ ⟨fun _ => MK.out _ hB2, ?_⟩
  clear hK K
  have hwx : wa.heap.size ≤ wx.heap.size := hB.size
  generalize wx.alloc (.cells #[.slice A n c, .int .i64 0] 70) = wy at *
  refine wpAnyL_one (i := 3) (by decide +kernel) ?_
  have hkv := kval_any k hk wx.heap.size A n c 0 nl wy hs
  rw [HTY.out] at hkv
  dsimp only [colV] at hkv
  refine wpOp_go (o := _) rfl (fun K hK => ?_)
  go_simp
  go_at_call 30
  refine hkv.mono ?_; rintro e w5 ⟨⟨vn, vi, vz⟩, hv, rfl, _, hg⟩
  have hB5 : Below wa.heap.size wa w5 := hB2.grown hg hB2.size (fun j hj => by injection hj with hj; omega)
  dsimp only [Vv]
  refine hK _ _ ⟨fun _ => MK.out _ hB5, ?_⟩
  clear hK K hkv hg
  refine wpAnyL_one (i := 4) (by decide +kernel) ?_
  have hR5 := hR.call hB5
  have rf := fun j => hR5.frozen j
  have r0 := hR5.cellAt 0 rfl
  have r1 := hR5.cellAt 1 rfl
  have r2 := hR5.cellAt 2 rfl
  refine wpOp_go (o := _) rfl (fun K hK => ?_)
  go_simp
  refine hK _ _ ⟨fun h => (by cases h), ?_⟩
  clear hK K
  refine wpAnyL_done (by decide +kernel) ?_ _
  have hRf := ((hR5.set_ 0 (.bool vn)).set_ 1 (.int .i64 vi)).set_ 2 (.string vz)
  have hbf : Below w.heap.size w (((w5.setCell ⟨w.heap.size + 1, 0, none⟩ (.bool vn)).setCell ⟨w.heap.size + 1, 1, none⟩ (.int .i64 vi)).setCell ⟨w.heap.size + 1, 2, none⟩ (.string vz)) := below_set (below_set (below_set (bt hbel hB5) (by omega)) (by omega)) (by omega)
  clear rf r0 r1 r2
  generalize ((w5.setCell ⟨w.heap.size + 1, 0, none⟩ (.bool vn)).setCell ⟨w.heap.size + 1, 1, none⟩ (.int .i64 vi)).setCell ⟨w.heap.size + 1, 2, none⟩ (.string vz) = w6 at *
  have r0 := hRf.cellAt 0 rfl
  have r1 := hRf.cellAt 1 rfl
  have r2 := hRf.cellAt 2 rfl
  go_wp2
  exact bodyPost_ret (v := .agg #[.bool vn, .int .i64 vi, .string vz]) (by simp [results, Try.results19, go_sem, r0, r1, r2]) rfl ⟨⟨vn, vi, vz⟩, hv, rfl, hbf⟩

end Go.Proofs.Ytnichmblekbccaa
