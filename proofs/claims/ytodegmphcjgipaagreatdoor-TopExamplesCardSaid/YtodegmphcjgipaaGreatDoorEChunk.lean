/-
  slices.Chunk over numbers: what its iterator hands to the loop's body, round by round.
-/
import Derived.RangeFuncNested
import Derived.RangeFuncBound
import Derived.RangeFuncCalls
import Derived.RangeFuncLeaves
import Derived.Shelf.Abstract
import Derived.Shelf.RegionOpen
import Derived.WalkKit
import Derived.OwnWalkIn
import Derived.TacticsInMore
import Derived.LoopNIn
import Derived.LoopIn
import Derived.Lib.MinMax
import Derived.Test.YtodegmphcjgipaaGreatDoorBlk
namespace Go.Proofs.YtodegmphcjgipaaGreatDoor
open Go.RowKit Go.Shelf

attribute [local go_sem] Oper.semAt_some

/-- The cells of three blocks are kept. -/
def Keeps3 (b s m : Nat) (A B : World) : Prop := ∀ p : Addr, (p.block = b ∨ p.block = s ∨ p.block = m) → B.cell? p = A.cell? p
theorem Keeps3.refl (b s m : Nat) (A : World) : Keeps3 b s m A A := fun _ _ => rfl
theorem Keeps3.trans {b s m : Nat} {A B C : World} (h : Keeps3 b s m A B) (k : Keeps3 b s m B C) : Keeps3 b s m A C := fun p hp => (k p hp).trans (h p hp)
/-- The chunk number k of a slice of len numbers at block b. -/
def chunkV (b len k : Nat) : Value := .slice (some ⟨b, 32 * k, none⟩) (min 32 (len - 32 * k)) (min 32 (len - 32 * k))

/-- The number of a chunk. -/
abbrev Chk (len : Nat) := { k : Nat // 32 * k < len }

set_option maxRecDepth 100000 in
set_option maxHeartbeats 2000000 in
theorem chunk1_in (n : Nat) (hn : 1 ≤ n) (l Bs Bn b len cap : Nat) (hreach : len * 8 ≤ 140737488351232) (hlc : len ≤ cap) (J Jx : List (Chk len) → World → Prop)
    (hY : ∀ pre x W, J pre W → pre.length < (len + 31) / 32 → YieldAt Fence.wide (n - 1) Tryz.prog l #[chunkV b len x.1] W fun e W' =>
      (e = .returned (.bool true) ∧ J (pre ++ [x]) W' ∧ Keeps3 b Bs Bn W W') ∨ (e = .returned (.bool false) ∧ Jx (pre ++ [x]) W'))
    (W : World) (hBs : W.cell? ⟨Bs, 0, none⟩ = some (.slice (some ⟨b, 0, none⟩) len cap)) (hBn : W.cell? ⟨Bn, 0, none⟩ = some (.int .i64 32)) (hJd : ∀ pre A, J pre A → J pre A.drew) (h0 : J [] W) :
    CallsIn Fence.wide n Tryz.prog 379 #[.func (.yield l) #[] #[], .pointer (some ⟨Bs, 0, none⟩), .pointer (some ⟨Bn, 0, none⟩)] W fun e W' => (∃ v, e = .returned v) ∧
      ((∃ ys, ys.map Subtype.val = List.range ((len + 31) / 32) ∧ J ys W') ∨ (∃ pre, True ∧ Jx pre W')) := by
  refine callsIn_of_wp Tryz.func379 rfl trivial ?_ rfl
  simp only [Tryz.ntmps379, List.size_toArray, List.length_cons, List.length_nil, Nat.reduceAdd, Nat.reduceSub, Array.replicate_succ, Array.replicate_zero, List.push_toArray, List.append_toArray, List.nil_append, List.cons_append]
  gi_wp2
  gi_loopw [4] (fun i wr => ∃ (k : Nat) (ys : List (Chk len)), k ≤ (len + 31) / 32 ∧ i = .int .i64 ((32 * k : Nat) : Int) ∧ ys.map Subtype.val = List.range k ∧ J ys wr ∧ Keeps3 b Bs Bn W wr)
    (fun i _ => (len + 31) / 32 - (intOf i).toNat / 32)
  case atStart => exact ⟨0, [], Nat.zero_le _, rfl, rfl, h0, Keeps3.refl _ _ _ _⟩
  case round =>
    obtain ⟨k, ys, hk, rfl, hys, hJs, hnx⟩ := hrel
    have hyl : ys.length = k := by have := congrArg List.length hys; simpa using this
    have HYS := Lib.hid hys
    clear hys
    have hs := (hnx ⟨Bs, 0, none⟩ (.inr (.inl rfl))).trans hBs
    have hm := (hnx ⟨Bn, 0, none⟩ (.inr (.inr rfl))).trans hBn
    by_cases hlt : 32 * k < len
    · have q1 : (0 : Int) ≤ ((32 * k : Nat) : Int) := by omega
      have q2 : ((32 * k : Nat) : Int) ≤ (len : Int) := by omega
      have q3 : (len : Int) ≤ (cap : Int) := by omega
      have q4 : ¬ cap = 32 * k := by omega
      have q5 : ¬ ((cap : Int) = ((32 * k : Nat) : Int)) := by omega
      have hmin : min (32 : Int) ((len - 32 * k : Nat) : Int) = ((min 32 (len - 32 * k) : Nat) : Int) := by omega
      gi_wp2
      refine wpIn_wide.2 ?_
      go_region
      obtain ⟨fn, tmps, assign, body, hy, hR⟩ := hY _ ⟨k, hlt⟩ wr.drew (hJd _ _ hJs) (by rw [hyl]; omega)
      dsimp only [chunkV] at hy
      have hs2 : wr.drew.cell? ⟨Bs, 0, none⟩ = some (.slice (some ⟨b, 0, none⟩) len cap) := hs
      have hm2 : wr.drew.cell? ⟨Bn, 0, none⟩ = some (.int .i64 32) := hm
      have hnd : Keeps3 b Bs Bn W wr.drew := hnx
      have e1 : min 32 (len - 32 * k) ≤ 32 := by omega
      have e2 : 0 < min 32 (len - 32 * k) := by omega
      have e3 : 32 * k + min 32 (len - 32 * k) ≤ len := by omega
      generalize min 32 (len - 32 * k) = e at *
      generalize wr.drew = wx at *
      have q6 : ((32 * k : Nat) : Int) ≤ ((32 * k : Nat) : Int) + (e : Int) := by omega
      have q7 : ((32 * k : Nat) : Int) + (e : Int) ≤ (cap : Int) := by omega
      have q8 : ((32 * k : Nat) : Int) + (e : Int) ≤ ((32 * k : Nat) : Int) + (e : Int) := by omega
      clear hmin hs hm hnx q2 q3
      gi_wp2
      refine hR.mono ?_
      rintro e' W3 (⟨rfl, hJ3, hk3⟩ | ⟨rfl, hJx3⟩)
      · have hm3 := (hk3 ⟨Bn, 0, none⟩ (.inr (.inr rfl))).trans hm2
        clear hs2 hm2 hy hR q6 q7 q8 q5 q4 q1
        gi_wp2
        go_roundw
        case rel => exact ⟨k + 1, _, by omega, by first | (congr 1; done) | (congr 1; omega), by rw [List.map_append, HYS.out, List.range_succ]; rfl, hJ3, hnd.trans hk3⟩
        case measure => simp [intOf]; omega
      · clear hs2 hm2 hy hR
        gi_wp2
        refine bodyPost_ret (results_none rfl _ _ _) rfl ?_
        exact ⟨⟨_, rfl⟩, .inr ⟨_, trivial, hJx3⟩⟩
    · obtain rfl : k = (len + 31) / 32 := by omega
      gi_wp2
      go_end0
      exact ⟨⟨_, rfl⟩, .inl ⟨_, HYS.out, hJs⟩⟩

set_option maxRecDepth 100000 in
set_option maxHeartbeats 1000000 in
theorem chunk1_nil_in (n : Nat) (l Bs Bn : Nat) (J : List (Chk 0) → World → Prop) (W : World) (hBs : W.cell? ⟨Bs, 0, none⟩ = some (.slice none 0 0)) (h0 : J [] W) :
    CallsIn Fence.wide n Tryz.prog 379 #[.func (.yield l) #[] #[], .pointer (some ⟨Bs, 0, none⟩), .pointer (some ⟨Bn, 0, none⟩)] W fun e W' => (∃ v, e = .returned v) ∧ J [] W' := by
  refine callsIn_of_wp Tryz.func379 rfl trivial ?_ rfl
  simp only [Tryz.ntmps379, List.size_toArray, List.length_cons, List.length_nil, Nat.reduceAdd, Nat.reduceSub, Array.replicate_succ, Array.replicate_zero, List.push_toArray, List.append_toArray, List.nil_append, List.cons_append]
  gi_wp2
  gi_loopw [4] (fun i wr => i = .int .i64 0 ∧ J [] wr ∧ wr.cell? ⟨Bs, 0, none⟩ = some (.slice none 0 0)) (fun _ _ => 0)
  case atStart => exact ⟨rfl, h0, hBs⟩
  case round =>
    obtain ⟨rfl, hJs, hc⟩ := hrel
    gi_wp2
    go_end0
    exact ⟨⟨_, rfl⟩, hJs⟩
set_option maxRecDepth 100000 in
set_option maxHeartbeats 1000000 in
/-- slices.Chunk itself: both arguments are boxed, the iterator captures the boxes. -/
theorem chunk_any (A : Option Addr) (n c : Nat) (w : World) :
    Calls Tryz.prog 339 #[.slice A n c, .int .i64 32] w fun e w' => e = .returned (.func (.func 379) #[] #[.pointer (some ⟨w.heap.size, 0, none⟩), .pointer (some ⟨w.heap.size + 1, 0, none⟩)]) ∧ w' = (w.alloc (.cells #[.slice A n c] 33)).alloc (.cells #[.int .i64 32] 3) := by
  go_enter Tryz.func339, Tryz.ntmps339
  go_wp2
  go_ret
  exact ⟨rfl, rfl⟩

end Go.Proofs.YtodegmphcjgipaaGreatDoor
