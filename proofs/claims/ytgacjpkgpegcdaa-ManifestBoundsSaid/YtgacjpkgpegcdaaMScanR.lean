/-
  The reference's Scan.
-/
import Derived.Test.YtgacjpkgpegcdaaMScan
import Derived.Lib.BufferOwn
namespace Go.Proofs.Ytgacjpkgpegcdaa
open Go.RowKit

/-- What a scan returns. -/
def ScanPost (w : World) (s : ByteArray) (e : Ending) (w' : World) : Prop :=
  ∃ (A : Option Addr) (c n : Nat) (xs : List RV), e = .returned (.tuple #[.slice A xs.length c, .int .i64 (n : Int)]) ∧ xs.length ≤ c ∧ n ≤ s.size ∧ RecsAt w' A xs ∧ (∀ x ∈ xs, chkR x.r = 0 ∧ keysOk x.r) ∧ ScanR s.data.toList (xs.map RV.r) n ∧ Below w.heap.size w w'
/-- A scan at work. -/
structure ScanI (w wr : World) (L : List UInt8) (v : Value) (xs : List RV) (i : Nat) : Prop where
  own : Own w wr 31 6 v xs.length (xs.flatMap recC)
  lie : ∀ x ∈ xs, InA wr v x
  ok : ∀ x ∈ xs, chkR x.r = 0 ∧ keysOk x.r
  frm : ScanFrom L i (xs.map RV.r)
  sm : xs.length * 8 ≤ i
theorem InA.call {w w' : World} {v : Value} {x : RV} (h : InA w v x) (hb : Below w.heap.size w w') : InA w' v x := by
  obtain ⟨A, c, A2, c2, e1, l1, e2, l2, r1, r2⟩ := h
  exact ⟨A, c, A2, c2, e1, l1, e2, l2, r1.call hb, r2.call hb⟩
theorem Own.below {w0 w w' : World} {e : TypeId} {size n : Nat} {v : Value} {xs : List Value} (h : Own w0 w e size v n xs) (hb : Below w.heap.size w w') : Own w0 w' e size v n xs := h.call hb
theorem ScanI.call {w wr w' : World} {L : List UInt8} {v : Value} {xs : List RV} {i : Nat} (h : ScanI w wr L v xs i) (hb : Below wr.heap.size wr w') : ScanI w w' L v xs i :=
  ⟨h.own.call hb, fun x hx => (h.lie x hx).call hb, h.ok, h.frm, h.sm⟩
theorem ScanI.start (w : World) (L : List UInt8) : ScanI w w L (.slice none 0 0) [] 0 := ⟨Own.nil _ _ _, by simp, by simp, ScanFrom.start L, by simp⟩
/-- The end of a scan. -/
theorem ScanI.post {w wr : World} {s : ByteArray} {A : Option Addr} {q c i : Nat} {xs : List RV} (h : ScanI w wr s.data.toList (.slice A q c) xs i) (hi : i ≤ s.size) (hs : ∀ r, ¬ Stands (s.data.toList.drop i) r) : ScanPost w s (.returned (.tuple #[.slice A q c, .int .i64 (i : Int)])) wr := by
  obtain ⟨rfl, hc⟩ := own_len h.own.1
  refine ⟨A, c, i, xs, rfl, hc, hi, ⟨Rd.of_own h.own.1, fun x hx => ?_⟩, h.ok, h.frm.done hs, h.own.2⟩
  obtain ⟨A1, c1, A2, c2, e1, l1, e2, l2, r1, r2⟩ := h.lie x hx
  exact ⟨A1, c1, A2, c2, e1, l1, e2, l2, r1.rd, r2.rd⟩
/-- A scan with the next record in a variable. -/
structure ScanX (w wr : World) (L : List UInt8) (v : Value) (xs : List RV) (i g : Nat) (x : RV) : Prop where
  scn : ScanI w wr L v xs i
  blk : Blk wr g 31 (recC x)
  lie : InA wr v x
theorem ScanX.call {w wr w' : World} {L : List UInt8} {v : Value} {xs : List RV} {i g : Nat} {x : RV} (h : ScanX w wr L v xs i g x) (hb : Below wr.heap.size wr w') : ScanX w w' L v xs i g x := ⟨h.scn.call hb, h.blk.call hb, h.lie.call hb⟩
theorem ScanX.begin {w w3 w4 : World} {L : List UInt8} {v : Value} {xs : List RV} {i : Nat} {x : RV} (h : ScanI w w3 L v xs i) (o1 : w4.ownsRow w3.heap.size 40 12 x.v x.r.add.length (x.r.add.flatMap entC)) (o2 : w4.ownsRow w3.heap.size 3 1 x.v2 x.r.rem.length (x.r.rem.map Iv)) (hb : Below w3.heap.size w3 w4) :
    ScanX w (w4.alloc (.cells #[.int .i64 x.r.kind, .int .i64 x.r.version, .int .i64 x.r.nextSeq, .int .i64 x.r.nextId, x.v, x.v2] 31)) L v xs i w4.heap.size x := by
  have h1 := Blk.new' w4 31 #[.int .i64 x.r.kind, .int .i64 x.r.version, .int .i64 x.r.nextSeq, .int .i64 x.r.nextId, x.v, x.v2]
  have hX : Below w4.heap.size w4 (w4.alloc (.cells #[.int .i64 x.r.kind, .int .i64 x.r.version, .int .i64 x.r.nextSeq, .int .i64 x.r.nextId, x.v, x.v2] 31)) := (Below.refl _ _).alloc (Nat.le_refl _) _
  obtain ⟨A, c, e1, l1⟩ := own_form o1
  have k1 := o1
  rw [e1] at k1
  obtain ⟨A2, c2, e2, l2⟩ := own_form o2
  have k2 := o2
  rw [e2] at k2
  have hl : InA w4 v x := ⟨A, c, A2, c2, e1, l1, e2, l2, RdA.new h.own k1, RdA.new h.own k2⟩
  exact ⟨(h.call hb).call hX, h1, hl.call hX⟩
theorem one_rc (r : Rc) (A A2 : Option Addr) (q c q2 c2 : Nat) : ∀ u ∈ recC ⟨r, .slice A q c, .slice A2 q2 c2⟩, u.oneCell' = true := by
  intro u hu
  simp only [recC, List.mem_cons, List.not_mem_nil, or_false] at hu
  rcases hu with rfl | rfl | rfl | rfl | rfl | rfl <;> rfl
/-- The record is appended. -/
theorem ScanI.next {w wz w' : World} {L : List UInt8} {v v' : Value} {xs : List RV} {i : Nat} {x : RV} (h : ScanI w wz L v xs i) (hin : InA wz v x) (hx : chkR x.r = 0 ∧ keysOk x.r) (hs : Stands (L.drop i) x.r) (ha : After2 w wz 31 6 v xs.length (xs.flatMap recC) (recC x) v' w') : ScanI w w' L v' (xs ++ [x]) (i + (encR x.r).length) := by
  have hm : ∀ y, InA wz v y → InA w' v' y := fun y hy => by
    obtain ⟨A, c, A2, c2, e1, l1, e2, l2, r1, r2⟩ := hy
    exact ⟨A, c, A2, c2, e1, l1, e2, l2, ha.2 _ _ r1, ha.2 _ _ r2⟩
  have h8 := (stands_len hs).2
  have hsm := h.sm
  refine ⟨?_, fun y hy => ?_, fun y hy => ?_, ?_, by rw [List.length_append, List.length_singleton]; omega⟩
  · have := ha.1
    rw [List.length_append, List.length_singleton, List.flatMap_append]
    simpa using this
  · rcases List.mem_append.1 hy with h1 | h1
    · exact hm y (h.lie y h1)
    · rw [List.mem_singleton.1 h1]; exact hm x hin
  · rcases List.mem_append.1 hy with h1 | h1
    · exact h.ok y h1
    · rw [List.mem_singleton.1 h1]; exact hx
  · rw [List.map_append]
    exact h.frm.next hs
theorem pay_ext {T : ByteArray} {L : List UInt8} {N : Nat} (h : T.data.toList = L) (hN : wordL T.data.toList 0 = N) : T.extract 4 (N + 4) = payL L := by
  subst h; subst hN
  apply ByteArray.ext
  apply Array.toList_inj.1
  rw [ByteArray.data_extract, Array.toList_extract, List.extract_eq_take_drop]
  simp [payL]
theorem payL_size (L : List UInt8) : (payL L).size ≤ L.length := by
  show ((L.drop 4).take _).toArray.size ≤ _
  simp
  omega

end Go.Proofs.Ytgacjpkgpegcdaa
