/-
  slices.Chunk over records: its iterator hands on the slice, if it is not empty, and nothing more.
-/
import Derived.Test.YtodegmphcjgipaaGreatDoorTRange
import Derived.Test.YtodegmphcjgipaaGreatDoorEChunk
namespace Go.Proofs.YtodegmphcjgipaaGreatDoor
namespace Ev
open Go Go.RowKit Go.Shelf

attribute [local go_sem] Oper.semAt_some

set_option maxRecDepth 100000 in
set_option maxHeartbeats 1000000 in
theorem chunkR_nil (l r1 o1 r2 o2 cap : Nat) (A : Option Addr) (J : List (One 0) → World → Prop) (W : World) (hBs : W.cell? ⟨r1, o1, none⟩ = some (.slice A 0 cap)) (h0 : J [] W) :
    CallsIn Fence.wide 5 Tryz.prog 119 #[.func (.yield l) #[] #[], .pointer (some ⟨r1, o1, none⟩), .pointer (some ⟨r2, o2, none⟩)] W fun e W' => (∃ v, e = .returned v) ∧ J [] W' := by
  refine callsIn_of_wp Tryz.func119 rfl trivial ?_ rfl
  simp only [Tryz.ntmps119, List.size_toArray, List.length_cons, List.length_nil, Nat.reduceAdd, Nat.reduceSub, Array.replicate_succ, Array.replicate_zero, List.push_toArray, List.append_toArray, List.nil_append, List.cons_append]
  gi_wp2
  gi_loopw [4] (fun i wr => i = .int .i64 0 ∧ J [] wr ∧ wr.cell? ⟨r1, o1, none⟩ = some (.slice A 0 cap)) (fun _ _ => 0)
  case atStart => exact ⟨rfl, h0, hBs⟩
  case round =>
    obtain ⟨rfl, hJs, hc⟩ := hrel
    gi_wp2
    go_end0
    exact ⟨⟨_, rfl⟩, hJs⟩

set_option maxRecDepth 100000 in
set_option maxHeartbeats 2000000 in
theorem chunkR_one (l r1 o1 r2 o2 m n cap r o : Nat) (hn0 : 0 < n) (hm2 : m ≤ 1000000) (hnm : n ≤ m) (hnc : n ≤ cap) (J Jx : List (One n) → World → Prop)
    (hY : ∀ pre x W, J pre W → pre.length < 1 → YieldAt Fence.wide 4 Tryz.prog l #[.slice (some ⟨r, o, none⟩) n n] W fun e W' => (e = .returned (.bool true) ∧ J (pre ++ [x]) W' ∧ Keep2 r1 r2 W W') ∨ (e = .returned (.bool false) ∧ Jx (pre ++ [x]) W'))
    (W : World) (hBs : W.cell? ⟨r1, o1, none⟩ = some (.slice (some ⟨r, o, none⟩) n cap)) (hBn : W.cell? ⟨r2, o2, none⟩ = some (.int .i64 (m : Int))) (hJd : ∀ pre A, J pre A → J pre A.drew) (h0 : J [] W) :
    CallsIn Fence.wide 5 Tryz.prog 119 #[.func (.yield l) #[] #[], .pointer (some ⟨r1, o1, none⟩), .pointer (some ⟨r2, o2, none⟩)] W fun e W' => (∃ v, e = .returned v) ∧
      ((∃ ys : List (One n), ys.length = 1 ∧ J ys W') ∨ (∃ pre, True ∧ Jx pre W')) := by
  refine callsIn_of_wp Tryz.func119 rfl trivial ?_ rfl
  simp only [Tryz.ntmps119, List.size_toArray, List.length_cons, List.length_nil, Nat.reduceAdd, Nat.reduceSub, Array.replicate_succ, Array.replicate_zero, List.push_toArray, List.append_toArray, List.nil_append, List.cons_append]
  gi_wp2
  gi_loopw [4] (fun i wr => ∃ k : Nat, i = .int .i64 (k : Int) ∧ Keep2 r1 r2 W wr ∧ ((k = 0 ∧ J [] wr) ∨ (k = m ∧ ∃ ys : List (One n), ys.length = 1 ∧ J ys wr))) (fun i _ => m - (intOf i).toNat)
  case atStart => exact ⟨0, rfl, fun _ _ => rfl, .inl ⟨rfl, h0⟩⟩
  case round =>
    obtain ⟨k, rfl, hkeep, hk⟩ := hrel
    have hs := (hkeep ⟨r1, o1, none⟩ (.inl rfl)).trans hBs
    have hm := (hkeep ⟨r2, o2, none⟩ (.inr rfl)).trans hBn
    rcases hk with ⟨rfl, hJ⟩ | ⟨rfl, ys, hys, hJ⟩
    · have q3 : (n : Int) ≤ (cap : Int) := by omega
      have q4 : ¬ cap = 0 := by omega
      have q5 : ¬ ((cap : Int) = 0) := by omega
      have q6 : (0 : Int) < (n : Int) := by omega
      have hmin : min (m : Int) (n : Int) = (n : Int) := by omega
      gi_wp2
      refine wpIn_wide.2 ?_
      go_region
      obtain ⟨fn, tmps, assign, body, hy, hR⟩ := hY [] ⟨0, rfl, hn0⟩ wr.drew (hJd _ _ hJ) (by simp)
      have hs2 : wr.drew.cell? ⟨r1, o1, none⟩ = some (.slice (some ⟨r, o, none⟩) n cap) := hs
      have hm2' : wr.drew.cell? ⟨r2, o2, none⟩ = some (.int .i64 (m : Int)) := hm
      have hnd : Keep2 r1 r2 W wr.drew := hkeep
      generalize wr.drew = wx at *
      have q7 : (0 : Int) ≤ (n : Int) := by omega
      clear hs hm hkeep hmin
      gi_wp2
      refine hR.mono ?_
      rintro e' W3 (⟨rfl, hJ3, hk3⟩ | ⟨rfl, hJx3⟩)
      · have hm3 := (hk3 ⟨r2, o2, none⟩ (.inr rfl)).trans hm2'
        clear hs2 hm2' hy hR q3 q4 q5
        gi_wp2
        go_roundw
        case rel => exact ⟨m, by first | rfl | (congr 1; done) | (congr 1; omega), hnd.trans hk3, .inr ⟨rfl, _, rfl, hJ3⟩⟩
        case measure => simp [intOf]; omega
      · clear hs2 hm2' hy hR
        gi_wp2
        refine bodyPost_ret (results_none rfl _ _ _) rfl ?_
        exact ⟨⟨_, rfl⟩, .inr ⟨_, trivial, hJx3⟩⟩
    · have q1 : ¬ ((k : Int) < (n : Int)) := by omega
      gi_wp2
      go_end0
      exact ⟨⟨_, rfl⟩, .inl ⟨ys, hys, hJ⟩⟩
theorem chunkR_ok : ChunkOk Tryz.prog 119 := by
  intro r1 o1 r2 o2 m n cap A w hBs hBn hr1 hr2 hm1 hm2 hnm hnc hA l J Jx W hW hJ _ hY h0
  have hs' := (hW.cell (p := ⟨r1, o1, none⟩) hr1).trans hBs
  have hm' := (hW.cell (p := ⟨r2, o2, none⟩) hr2).trans hBn
  have hJd : ∀ pre A, J pre A → J pre A.drew := fun pre A h => hJ pre A A.drew none h ⟨rfl, rfl, rfl, Nat.le_refl _, fun _ _ _ => rfl⟩ (fun r e => by cases e)
  by_cases hn : n = 0
  · subst hn
    exact (chunkR_nil l r1 o1 r2 o2 cap A J W hs' h0).mono fun e W' ⟨he, hj⟩ => ⟨he, .inl ⟨[], rfl, hj⟩⟩
  · rcases hA with ⟨-, h, -⟩ | ⟨r, o, rfl⟩
    · exact absurd h hn
    · refine (chunkR_one l r1 o1 r2 o2 m n cap r o (by omega) hm2 hnm hnc J Jx hY W hs' hm' hJd h0).mono fun e W' ⟨he, hj⟩ => ⟨he, ?_⟩
      rcases hj with ⟨ys, h1, h2⟩ | h
      · exact .inl ⟨ys, by rw [if_neg hn]; exact h1, h2⟩
      · exact .inr h
end Ev
end Go.Proofs.YtodegmphcjgipaaGreatDoor
