/-
  The run of TopExamples: it returns true, in whatever memory, on every tape; what lay in memory stays.
-/
import Derived.Test.YtodegmphcjgipaaGreatDoorTEq
import Derived.Test.YtodegmphcjgipaaGreatDoorTCa
import Derived.Test.YtodegmphcjgipaaGreatDoorTCb
import Derived.Test.YtodegmphcjgipaaGreatDoorTCc
import Derived.Test.YtodegmphcjgipaaGreatDoorTCd
namespace Go.Proofs.YtodegmphcjgipaaGreatDoor
namespace Ev
open Go Go.RowKit Go.Shelf

theorem follows_ok : Tryz.prog.follows .mixedOrders = true := by kernel_rfl
theorem guard_value : Tryz.prog.eqGuardType Tryz.prog.depth 37 = false := by kernel_rfl
theorem guard_rank : Tryz.prog.eqGuardType Tryz.prog.depth 83 = false := by kernel_rfl
theorem guard_zone : Tryz.prog.eqGuardType Tryz.prog.depth 232 = false := by kernel_rfl
theorem guard_wide : Tryz.prog.eqGuardType Tryz.prog.depth 377 = false := by kernel_rfl
theorem guard_entry : Tryz.prog.eqGuardType Tryz.prog.depth 85 = false := by kernel_rfl
theorem eqs_cases {t : TypeId} (h : eqs t = true) : t = 37 ∨ t = 83 ∨ t = 232 ∨ t = 377 ∨ t = 85 := by
  have h' : bi (Nat.beq t 37) true (bi (Nat.beq t 83) true (bi (Nat.beq t 232) true (bi (Nat.beq t 377) true (Nat.beq t 85)))) = true := h
  cases q0 : Nat.beq t 37 with
  | true => exact .inl (beq_t q0)
  | false =>
    rw [q0, bi_f] at h'
    cases q1 : Nat.beq t 83 with
    | true => exact .inr (.inl (beq_t q1))
    | false =>
      rw [q1, bi_f] at h'
      cases q2 : Nat.beq t 232 with
      | true => exact .inr (.inr (.inl (beq_t q2)))
      | false =>
        rw [q2, bi_f] at h'
        cases q3 : Nat.beq t 377 with
        | true => exact .inr (.inr (.inr (.inl (beq_t q3))))
        | false =>
          rw [q3, bi_f] at h'
          exact .inr (.inr (.inr (.inr (beq_t h'))))
theorem zero_of {t : TypeId} {ti : TI} {z : List V} (h : types.get t = some ti) (hz : (types.get t).map (·.zero) = some z) : ti.zero = z := by
  rw [h] at hz
  exact Option.some.inj hz
theorem tys_of {T : Tab} (h1 : T.types = types) (h2 : T.eqs = eqs) : Tys Tryz.prog T where
  ty := fun t ti e => types_ok t ti (by rw [← h1]; exact e)
  guard := fun t e => by
    rw [h2] at e
    rcases eqs_cases e with rfl | rfl | rfl | rfl | rfl
    · exact guard_value
    · exact guard_rank
    · exact guard_zone
    · exact guard_wide
    · exact guard_entry
  eq := fun t ti e g => by
    rw [h2] at e
    rw [h1] at g
    rcases eqs_cases e with rfl | rfl | rfl | rfl | rfl
    · rw [zero_of g zero_value]; exact eqOk_value
    · rw [zero_of g zero_rank]; exact eqOk_rank
    · rw [zero_of g zero_zone]; exact eqOk_zone
    · rw [zero_of g zero_wide]; exact eqOk_wide
    · rw [zero_of g zero_entry]; exact eqOk_entry
theorem funs_of {T : Tab} (h1 : T.funcs = funcs) (h2 : T.exts = exts) (h3 : T.meths = meths) : Funs Tryz.prog T where
  body := fun f fn e => funcs_get (by rw [← h1]; exact e)
  ext := fun f e g => exts_ok f e (by rw [← h2]; exact g)
  meth := fun t m f e => meth_ok t m f (by rw [← h3]; exact e)
theorem chkd_of {T : Tab} (h1 : T.funcs = funcs) : Chkd T := fun f fn e c hc => funcs_chk (f := f) (by rw [← h1]; exact e) hc
theorem sum0 (W : Base) : SumOk Tryz.prog tab0 W := by
  intro f s h
  have h' : bi (Nat.beq f 116) (some sumTable) (bi (Nat.beq f 115) (some sumSum) (bi (Nat.beq f 277) (some sumDelta) none)) = some s := h
  cases h1 : Nat.beq f 116 with
  | true => rw [h1, bi_t] at h'; cases h'; rw [beq_t h1]; exact sums_table W
  | false =>
    rw [h1, bi_f] at h'
    cases h2 : Nat.beq f 115 with
    | true => rw [h2, bi_t] at h'; cases h'; rw [beq_t h2]; exact sums_sum W
    | false =>
      rw [h2, bi_f] at h'
      obtain ⟨h3, h4⟩ := bi_none h'
      cases h4
      rw [beq_t h3]; exact sums_delta W
theorem call0 (n : Nat) (W : Base) : CallOk Tryz.prog tab0 W (evCall tab0 n) := call_ok (tys_of rfl rfl) (funs_of rfl rfl rfl) follows_ok (sum0 W) (chkd_of rfl) n
noncomputable def chkSplit : Bool := Option.rec false (fun c => chkTop Tryz.f18.ntmps c) Tryz.f18.body
set_option maxRecDepth 100000 in
theorem chkSplit_ok : chkSplit = true := by kernel_rfl
theorem sums_split : Sums Tryz.prog tab0 18 (sumRng Tryz.f18 119 tab0 (evCall tab0 100)) := by
  have hc := chkSplit_ok
  unfold chkSplit at hc
  cases hb : Tryz.f18.body with
  | none => rw [hb] at hc; cases (show false = true from hc)
  | some c =>
    rw [hb] at hc
    exact sums_rng (tys_of rfl rfl) (funs_of rfl rfl rfl) follows_ok (call0 100) (enters_of Tryz.func119 (by kernel_rfl) rfl) chunkR_ok Tryz.func18 hb hc
theorem sum1 (W : Base) : SumOk Tryz.prog tab W := by
  intro f s h
  have h' : bi (Nat.beq f 18) (some (sumRng Tryz.f18 119 tab0 (evCall tab0 100))) (summ0 f) = some s := h
  cases h1 : Nat.beq f 18 with
  | true => rw [h1, bi_t] at h'; cases h'; rw [beq_t h1]; exact (sums_split W).tab rfl
  | false =>
    rw [h1, bi_f] at h'
    exact SumsAt.tab (T := tab0) (sum0 W f s h') rfl
theorem call1 (W : Base) : CallOk Tryz.prog tab W (evCall tab 400) := call_ok (tys_of rfl rfl) (funs_of rfl rfl rfl) follows_ok (sum1 W) (chkd_of rfl) 400
noncomputable def memos : List Memo := [memo1, memo2, memo3, memo4, memo5, memo6, memo7, memo8, memo9, memo10, memo11, memo12, memo13, memo14, memo15, memo16]
theorem memos_ok : ∀ m ∈ memos, Sums Tryz.prog tab m.f m.tell := by
  intro m hm
  simp only [memos, List.mem_cons, List.mem_nil_iff, or_false] at hm
  rcases hm with rfl | rfl | rfl | rfl | rfl | rfl | rfl | rfl | rfl | rfl | rfl | rfl | rfl | rfl | rfl | rfl
  · exact Memo.sums call1 memo1_ok
  · exact Memo.sums call1 memo2_ok
  · exact Memo.sums call1 memo3_ok
  · exact Memo.sums call1 memo4_ok
  · exact Memo.sums call1 memo5_ok
  · exact Memo.sums call1 memo6_ok
  · exact Memo.sums call1 memo7_ok
  · exact Memo.sums call1 memo8_ok
  · exact Memo.sums call1 memo9_ok
  · exact Memo.sums call1 memo10_ok
  · exact Memo.sums call1 memo11_ok
  · exact Memo.sums call1 memo12_ok
  · exact Memo.sums call1 memo13_ok
  · exact Memo.sums call1 memo14_ok
  · exact Memo.sums call1 memo15_ok
  · exact Memo.sums call1 memo16_ok
theorem call2 (n : Nat) (W : Base) : CallOk Tryz.prog (tab.with memos) W (evCall (tab.with memos) n) := call_ok (tys_of rfl rfl) (funs_of rfl rfl rfl) follows_ok (sumOk_with memos memos_ok W (sum1 W)) (chkd_of rfl) n
noncomputable def isTrue (r : Ret) : Bool := Ret.rec false (fun v _ => eqV v (.bool true)) r
set_option maxRecDepth 100000 in
theorem run_ok : isTrue (evCall (tab.with memos) 400 3 [] st0) = true := by kernel_rfl
/-- the names at the start: the program's variables -/
def map0 : Map := fun b => if b < 6 then some ⟨b, 0, 0⟩ else none
theorem start (w : World) : Rel (tab.with memos) (Base.from w) map0 st0 w where
  shape := fun b bl L e => by cases (show (none : Option Blk) = some bl from e)
  cells := fun b bl L e => by cases (show (none : Option Blk) = some bl from e)
  fz := fun b bl L e => by cases (show (none : Option Blk) = some bl from e)
  head := fun b bl L e => by cases (show (none : Option Blk) = some bl from e)
  inj := fun b b' bl bl' L L' e => by cases (show (none : Option Blk) = some bl from e)
  fresh := fun b hb => ⟨by unfold map0; rw [if_neg (by have : 6 ≤ b := hb; omega)], rfl⟩
  glob := fun g hg => ⟨0, by
    have hg' : g < 6 := hg
    unfold map0
    rw [if_pos hg']⟩
  own := fun b bl L _ e => by cases (show (none : Option Blk) = some bl from e)
  below := Below.refl _ _
theorem walk (w : World) : Calls Tryz.prog 3 #[] w fun e w' => e = .returned (.bool true) ∧ Below w.heap.size w w' := by
  have h := run_ok
  unfold isTrue at h
  cases hr : evCall (tab.with memos) 400 3 [] st0 with
  | fail => rw [hr] at h; cases (show false = true from h)
  | val v st' =>
    rw [hr] at h
    have hv := eqV_t _ _ (show eqV v (.bool true) = true from h)
    subst hv
    refine (call2 400 (Base.from w) _ _ _ _ _ hr map0 w #[] (start w) .nil).mono fun e w' he => ?_
    cases e with
    | returned x =>
      obtain ⟨σ, h1, h2, h3⟩ := he
      exact ⟨by rw [bool_inv h3], h2.below⟩
    | panicked c => exact he.elim
    | outgrown => exact he.elim
end Ev
end Go.Proofs.YtodegmphcjgipaaGreatDoor
