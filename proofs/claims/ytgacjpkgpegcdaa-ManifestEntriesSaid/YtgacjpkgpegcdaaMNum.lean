/-
  What stays beside a builder that is written; manifest.Encode's closure 'number'.
-/
import Derived.Test.YtgacjpkgpegcdaaMShelf
import Derived.Test.YtgacjpkgpegcdaaVWalks
namespace Go.Proofs.Ytgacjpkgpegcdaa
open Go.RowKit

/-- The builder at b holds l; nothing but it and rows of bytes has turned from w to w'. -/
structure BP (B b : Nat) (l : List UInt8) (w w' : World) : Prop where
  bld : Lib.IsBuilder 64 5 B b (Lib.byteCells l) w'
  bel : Below B w w'
  oth : Lib.OthersKept 5 (some b) w w'
  sz : B ≤ w'.heap.size
theorem bytes_app (a : List UInt8) (s : List UInt8) : Lib.byteCells a ++ Lib.strCells ⟨s.toArray⟩ = Lib.byteCells (a ++ s) := by
  rw [Lib.strCells_eq]; unfold Lib.byteCells; simp
theorem bytes_app1 (a : List UInt8) (n : Nat) (hn : n < 256) : Lib.byteCells a ++ [.int .u8 (n : Int)] = Lib.byteCells (a ++ [UInt8.ofNat n]) := by
  unfold Lib.byteCells; simp; omega
theorem oth_below {e : TypeId} {b : Option Nat} {w w' : World} (h : Below w.heap.size w w') : Lib.OthersKept e b w w' := fun k _ hk _ _ =>
  (h.block k (Array.getElem?_eq_some_iff.1 hk).1).trans hk
theorem bld_call {T e : TypeId} {B b : Nat} {bs : List Value} {w w' : World} (h : Lib.IsBuilder T e B b bs w) (hb : Below w.heap.size w w') : Lib.IsBuilder T e B b bs w' := by
  have key : ∀ p, Lib.BuilderAt T e B b p bs w → Lib.BuilderAt T e B b p bs w' := fun p ⟨hB, v, hbk, hown, hne⟩ =>
    ⟨hB, v, (hb.block b (Array.getElem?_eq_some_iff.1 hbk).1).trans hbk, hown.kept (row := none) ⟨hb.os, hb.tape, hb.output, hb.size, fun k hk _ => hb.block k hk⟩ (by
      cases h1 : v.ownBlock
      · exact .inl rfl
      · exact .inr (by simp)), hne⟩
  exact h.elim (fun x => .inl (key _ x)) (fun x => .inr (key _ x))
section
variable {B b : Nat} {l l' : List UInt8} {w w1 w2 : World}
theorem BP.call (h : BP B b l w w1) (hb : Below w1.heap.size w1 w2) : BP B b l w w2 :=
  ⟨bld_call h.bld hb, h.bel.trans (hb.mono h.sz), h.oth.trans (oth_below hb), Nat.le_trans h.sz hb.size⟩
theorem BP.alloc (h : BP B b l w w1) (o : Obj) : BP B b l w (w1.alloc o) := h.call ((Below.refl _ _).alloc (Nat.le_refl _) o)
theorem BP.drew (h : BP B b l w w1) : BP B b l w w1.drew := h.call (Below.drew (Below.refl _ _))
theorem BP.trans (h : BP B b l w w1) (k : BP B b l' w1 w2) : BP B b l' w w2 := ⟨k.bld, h.bel.trans k.bel, h.oth.trans k.oth, k.sz⟩
theorem BP.write {bs : List Value} (h : BP B b l w w1) (k : BldPost B b bs w1 w2) (e : bs = Lib.byteCells l') : BP B b l' w w2 := by
  subst e
  exact ⟨.inr k.1, h.bel.trans k.2.1, h.oth.trans k.2.2, Nat.le_trans h.sz k.2.1.size⟩
theorem BP.self (h : BP B b l w w1) : BP B b l w1 w1 := ⟨h.bld, Below.refl _ _, Lib.OthersKept.refl _ _ _, h.sz⟩
end
/-- The cells at A, where the builder's writing does not reach. -/
def RdK (B b : Nat) (w : World) (A : Option Addr) (xs : List Value) : Prop :=
  xs = [] ∨ ∃ ad, A = some ad ∧ (ad.block < B ∨ (ad.block ≠ b ∧ ∃ cs t fz, t ≠ 5 ∧ w.heap[ad.block]? = some (.cells cs t fz))) ∧ ∀ (j : Nat) (u : Value), xs[j]? = some u → w.cell? (ad.add j) = some u
theorem kept_heap {B b g : Nat} {w w' : World} {l : List UInt8} (h : g < B ∨ (g ≠ b ∧ ∃ cs t fz, t ≠ 5 ∧ w.heap[g]? = some (.cells cs t fz))) (hp : BP B b l w w') : w'.heap[g]? = w.heap[g]? := by
  rcases h with h | ⟨hne, cs, t, fz, ht, hg⟩
  · exact hp.bel.block g h
  · rw [hg]
    exact hp.oth g _ hg (fun e => hne (by injection e)) (fun c f e => by injection e with _ e2 _; exact ht e2)
theorem RdK.bp {B b : Nat} {w w' : World} {A : Option Addr} {xs : List Value} {l : List UInt8} (h : RdK B b w A xs) (hp : BP B b l w w') : RdK B b w' A xs := by
  rcases h with h | ⟨ad, e, hk, hc⟩
  · exact .inl h
  · have hh := kept_heap hk hp
    refine .inr ⟨ad, e, ?_, fun j u hj => ?_⟩
    · rcases hk with hk | ⟨hne, cs, t, fz, ht, hg⟩
      · exact .inl hk
      · exact .inr ⟨hne, cs, t, fz, ht, hh.trans hg⟩
    · rw [← hc j u hj]
      exact World.cell?_of_block (by rw [block_of_add]; exact hh)
theorem RdK.at_ {B b : Nat} {w : World} {A : Option Addr} {xs : List Value} {j : Nat} {u : Value} (h : RdK B b w A xs) (hj : xs[j]? = some u) : ∃ ad, A = some ad ∧ w.cell? (ad.add j) = some u := by
  rcases h with rfl | ⟨ad, e, _, hc⟩
  · simp at hj
  · exact ⟨ad, e, hc j u hj⟩
theorem RdK.of_rd {B b : Nat} {w : World} {A : Option Addr} {xs : List Value} (h : Rd w B A xs) : RdK B b w A xs := by
  rcases h with h | ⟨ad, e, hb, hc⟩
  · exact .inl h
  · exact .inr ⟨ad, e, .inl hb, hc⟩
/-- A slice literal that was made now. -/
theorem RdK.new {B b : Nat} {w : World} {cs : Array Value} {t : TypeId} (ht : t ≠ 5) (hb : b < w.heap.size) : RdK B b (w.alloc (.cells cs t)) (some ⟨w.heap.size, 0, none⟩) cs.toList := by
  refine .inr ⟨_, rfl, .inr ⟨fun e => ?_, cs, t, (0, 0), ht, heap_alloc_new w _⟩, fun j u hj => ?_⟩
  · simp only at e; omega
  · have e0 : (⟨w.heap.size, 0, none⟩ : Addr).add j = ⟨w.heap.size, j, none⟩ := by unfold Addr.add; split <;> simp_all
    rw [e0, World.cell?_alloc_mark]
    simpa using hj
theorem BP.lt {B b : Nat} {l : List UInt8} {w w' : World} (h : BP B b l w w') : b < w'.heap.size := by
  rcases h.bld with k | k
  · exact k.lt
  · exact k.lt
theorem bytes_len (l : List UInt8) : (Lib.byteCells l).length = l.length := Lib.byteCells_length l
set_option maxRecDepth 100000 in
set_option maxHeartbeats 1000000 in
theorem number_any (B b : Nat) (l : List UInt8) (A : Option Addr) (n c : Nat) (zs : List Int) (w : World) (hs : BP B b l w w) (hr : RdK B b w A (zs.map Iv)) (hn : zs.length = n) (hz : ∀ z ∈ zs, 0 ≤ z ∧ z ≤ 4611686018427387904) (hm : n ≤ 1000000) (hl : l.length + 10 * n ≤ 10000000000) :
    Calls Try.prog 34 #[.slice A n c, .pointer (some ⟨b, 0, none⟩)] w fun e w' => e = .returned (.tuple #[]) ∧ BP B b (l ++ zs.flatMap numP) w w' := by
  have HN := Lib.hid hn
  have HZ := Lib.hid hz
  have HF : Hid (∀ i, i ≤ n → ((zs.take i).flatMap numP).length ≤ 10 * i) := fun i hi => by
    have := flat_le (f := numP) (k := 10) (l := zs.take i) (fun z hz' => by
      have := hz z (List.mem_of_mem_take hz')
      exact numP_len (by omega))
    rw [List.length_take] at this
    omega
  clear hn hz
  go_enter Try.func34, Try.ntmps34
  go_wp2_with fail
  go_loopw [7] (fun a wr => ∃ i : Nat, a = .int .i64 (i : Int) ∧ i ≤ n ∧ BP B b (l ++ (zs.take i).flatMap numP) w wr) (fun a _ => n - (intOf a).toNat)
  case atStart => exact ⟨0, rfl, by omega, by simpa using hs⟩
  case round =>
    clear hs
    obtain ⟨i, rfl, hi, hp⟩ := hrel
    by_cases hin : i < n
    · obtain ⟨z, hz⟩ : ∃ z, zs[i]? = some z := ⟨_, List.getElem?_eq_getElem (by rw [HN.out]; exact hin)⟩
      obtain ⟨ad, rfl, cz⟩ := (hr.bp hp).at_ (j := i) (u := Iv z) (by rw [List.getElem?_map, hz]; rfl)
      obtain ⟨hz0, hz1⟩ := HZ.out z (List.mem_of_getElem? hz)
      obtain ⟨m, rfl⟩ := Int.eq_ofNat_of_zero_le hz0
      have hU : U64 m := by unfold U64; omega
      have hpl := putL_len hU
      have hfl := HF.out i hi
      have HS : Hid ((zs.take (i + 1)).flatMap numP = (zs.take i).flatMap numP ++ putL m) := by
        show _ = _
        rw [List.take_add_one, hz, List.flatMap_append]
        simp [numP]
      have hw : IntKind.u64.wrap (m : Int) = (m : Int) := IntWalk.u64_in _ (by omega)
      clear hz
      go_wp2_with fail
      refine (put_any m _ hU).mono ?_; rintro e w1 ⟨rfl, hb1⟩
      have hp1 := hp.call hb1
      go_wp2_with fail
      refine (writeString_any B b _ _ _ hp1.bld (by rw [bytes_len, size_mk, List.length_append]; omega) hp1.sz).mono ?_; rintro e w2 ⟨rfl, hk⟩
      have hp2 := hp1.write (l' := l ++ (zs.take (i + 1)).flatMap numP) hk (by rw [bytes_app, HS.out, List.append_assoc])
      go_wp2
      go_roundw
      case rel => exact ⟨i + 1, by go_num, by omega, hp2⟩
      case measure => simp [intOf]; omega
    · have hi2 : i = n := by omega
      have ht : zs.take i = zs := by rw [hi2, ← HN.out]; exact List.take_length
      rw [ht] at hp
      go_wp2
      go_end0
      exact ⟨rfl, hp⟩

end Go.Proofs.Ytgacjpkgpegcdaa
