/-
  strings.Builder: copyCheck, WriteByte, WriteString at this translation; Len and String.
-/
import Derived.Test.YtgacjpkgpegcdaaMPlain
import Derived.Test.YtgacjpkgpegcdaaWide
import Derived.Test.YtgacjpkgpegcdaaBlk
import Derived.Lib.Builder
import Derived.Lib.OthersKept
import Derived.Laws.Externs
import Derived.Maps.AppendAt
namespace Go.Proofs.Ytgacjpkgpegcdaa
open Go.RowKit

theorem sizeBld : (Try.prog.info? 64).map (·.size) = some 2 := by kernel_rfl
theorem liesBld : liesAt Try.prog Try.prog.depth 64 (2 / Try.prog.cellsOf 64) 0 64 1 = true := by kernel_rfl
theorem noEscape (x : Value) (w : World) : (callFunc 82 #[x]).run Try.prog w = .ok (.value x) w := by
  rw [run_callFunc_extern Try.func82 (by kernel_rfl) (by kernel_rfl) (by kernel_rfl) (e := Extern.AbiNoEscape.same) (by kernel_rfl)]
  rw [Lib.run_noEscape]
  rfl
/-- What a writing call has done: the bytes, nothing else turned but rows of bytes. -/
def BldPost (B b : Nat) (bs : List Value) (w w' : World) : Prop :=
  Lib.BuilderAt 64 5 B b (.pointer (some ⟨b, 0, none⟩)) bs w' ∧ Below B w w' ∧ Lib.OthersKept 5 (some b) w w'
set_option maxRecDepth 100000 in
set_option maxHeartbeats 1000000 in
theorem copyCheck_any (B b : Nat) (bs : List Value) (w : World) (h : Lib.IsBuilder 64 5 B b bs w) :
    Calls Try.prog 67 #[.pointer (some ⟨b, 0, none⟩)] w fun e w' => e = .returned (.tuple #[]) ∧ BldPost B b bs w w' := by
  obtain ⟨j, hj, hjs⟩ := Option.map_eq_some_iff.1 sizeBld
  rcases h with h | h
  · have hto := Lib.run_to_unsafe w ⟨b, 0, none⟩ Try.underlying62 Try.underlying126 hj (by rw [hjs]; decide) h.shape (Nat.zero_lt_succ 1)
    have hfrom := Lib.run_from_unsafe w ⟨b, 0, none⟩ Try.underlying126 Try.underlying62 hj h.shape liesBld
    have h0 := h.cell0
    have hf := h.frozen0
    have hpost : BldPost B b bs w (w.setCell ⟨b, 0, none⟩ (.pointer (some ⟨b, 0, none⟩))) := ⟨h.used _, (Below.refl B w).setCell (p := ⟨b, 0, none⟩) h.1 _, (Lib.OthersKept.refl _ _ w).setCell ⟨b, 0, none⟩ rfl _⟩
    have hne := noEscape
    go_enter Try.func67, Try.ntmps67
    go_wp2
    go_end0
    exact ⟨rfl, hpost⟩
  · have h0 := h.cell0
    have hq := Lib.run_neq_ptr_same (P := Try.prog) w ⟨b, 0, none⟩ Try.underlying62 hj
    go_enter Try.func67, Try.ntmps67
    go_wp2
    go_end0
    exact ⟨rfl, h, Below.refl _ _, Lib.OthersKept.refl _ _ _⟩

theorem Try.infoU8c : (Try.prog.info? 5).map (fun i => (i.zero, i.size, i.bytes)) = some (some (.int .u8 0), 1, 1) := by kernel_rfl
theorem bytesB : SlTy Try.prog 43 5 (.int .u8 0) 1 1 := ⟨Try.underlying43, info_parts Try.infoU8c⟩
theorem append_text {P : Program} {w : World} {base : Nat} {e : TypeId} {v : Value} {n : Nat} {xs : List Value} (hown : w.ownsRow base e 1 v n xs) (hbase : base ≤ w.heap.size)
    {t u : TypeId} (hT : SlTy P t e (.int .u8 0) 1 1) (hu : P.underlying u = some .string) (s : ByteArray) (hfit : n + s.size + (n + s.size) / 4 + 192 ≤ 281474976710656)
    {ops : Array Oper} {rest : List Oper} {o : Oper} {a : Act} {Q : Exit → Act → World → Prop}
    (h : ∀ v' w', w'.ownsRow base e 1 v' (n + s.size) (xs ++ Lib.strCells s) → w.grownBy w' v.ownBlock → wpList P ops Q rest (a.put o.dst v') w')
    (hgd : o.guard = none) (y x : Operand) (ho : o.op = .call { callee := .builtin .append, args := #[y, x], argTypes := #[t, u] })
    (hs : a.eval y = v) (hx : a.eval x = .string s) : wpList P ops Q (o :: rest) a w := by
  refine wpList_plain hgd fun K hK => ?_
  obtain ⟨v', w', hr, h2, h3⟩ := run_append_string_wide (P := P) w base t u o.type e hT hu v n xs hown s hfit hbase
  unfold Oper.wp execOp
  simp only [ho, resolve, invoke, builtin, Sem.run_bind, Sem.run_pure, Result.andThen_ok, List.map_toArray, List.map_cons, List.map_nil, hs, hx, hr]
  exact hK _ _ (h v' w' h2 h3)
theorem own_kind {w : World} {base : Nat} {e : TypeId} {v : Value} {n : Nat} {xs : List Value} (h : w.ownsRow base e 1 v n xs) : ∀ g, v.ownBlock = some g → ∃ c fz, w.heap[g]? = some (.cells c e fz) := by
  intro g hg
  rcases h.2 with ⟨rfl, _⟩ | ⟨g', cap, cur, rfl, _, hgg, _⟩
  · simp [Value.ownBlock] at hg
  · simp [Value.ownBlock] at hg; subst hg; exact ⟨_, _, hgg⟩
theorem neB : 64 ≠ 5 := by decide
set_option maxRecDepth 100000 in
set_option maxHeartbeats 1000000 in
theorem writeString_any (B b : Nat) (bs : List Value) (s : ByteArray) (w : World) (h : Lib.IsBuilder 64 5 B b bs w) (hlen : bs.length + s.size ≤ 100000000000000) (hBw : B ≤ w.heap.size) :
    Calls Try.prog 35 #[.pointer (some ⟨b, 0, none⟩), .string s] w fun e w' => e = .returned (.tuple #[.int .i64 s.size, .nilIface]) ∧ BldPost B b (bs ++ Lib.strCells s) w w' := by
  go_enter Try.func35, Try.ntmps35
  go_wp2_with fail
  refine (copyCheck_any B b bs _ h).mono ?_; rintro e w1 ⟨rfl, ⟨hB, v, hbk, hown, hne⟩, hb1, hk1⟩
  have c1 : w1.cell? ⟨b, 1, none⟩ = some v := by rw [Lib.cell_of_heap hbk]; rfl
  have hsz1 := hb1.size
  go_wp2_with (at_builtin; refine append_text hown (by omega) bytesB Try.underlying9 s (by omega) ?_ rfl _ _ rfl rfl rfl)
  intro v' w2 hown' hgrow
  have hlt : b < w1.heap.size := (Array.getElem?_eq_some_iff.1 hbk).1
  have hb2 : w2.heap[b]? = some (.cells #[.pointer (some ⟨b, 0, none⟩), v] 64 (0, 0)) := (hgrow.block b hlt (fun e => hne e.symm)).trans hbk
  have d1 : w2.cell? ⟨b, 1, none⟩ = some v := by rw [Lib.cell_of_heap hb2]; rfl
  have f1 : w2.frozen? ⟨b, 1, none⟩ = false := Lib.frozen_of_heap hb2 1
  have hpost : BldPost B b (bs ++ Lib.strCells s) w (w2.setCell ⟨b, 1, none⟩ v') :=
    ⟨Lib.BuilderAt.put hB hb2 (by rw [List.length_append, Lib.strCells_length]; exact hown') neB,
      (hb1.grown hgrow (by omega) (fun k hk => (hown.lt k hk).1)).setCell (p := ⟨b, 1, none⟩) hB _,
      (hk1.grown hgrow (own_kind hown)).setCell ⟨b, 1, none⟩ rfl _⟩
  obtain ⟨A', c', rfl, _⟩ := own_form hown'
  go_wp2
  go_ret2
  exact ⟨rfl, hpost⟩
set_option maxRecDepth 100000 in
set_option maxHeartbeats 1000000 in
theorem writeByte_any (B b : Nat) (bs : List Value) (c : Int) (w : World) (h : Lib.IsBuilder 64 5 B b bs w) (hlen : bs.length + 1 ≤ 100000000000000) (hBw : B ≤ w.heap.size) :
    Calls Try.prog 37 #[.pointer (some ⟨b, 0, none⟩), .int .u8 c] w fun e w' => e = .returned .nilIface ∧ BldPost B b (bs ++ [.int .u8 c]) w w' := by
  obtain ⟨_, i0, hi0, hz0, hs0, hy0⟩ := bytesB
  go_enter Try.func37, Try.ntmps37
  go_wp2_with fail
  refine (copyCheck_any B b bs _ h).mono ?_; rintro e w1 ⟨rfl, ⟨hB, v, hbk, hown, hne⟩, hb1, hk1⟩
  have c1 : w1.cell? ⟨b, 1, none⟩ = some v := by rw [Lib.cell_of_heap hbk]; rfl
  have hsz1 := hb1.size
  go_wp2_with (at_builtin; refine wpList_append_own_at _ rfl _ _ 43 rfl B 5 i0 (.int .u8 0) 1 1 Try.underlying43 hi0 hz0 hs0 hy0 rfl (by decide) v bs.length bs rfl (hown.alloc _) ⟨w1.heap.size, 0, none⟩ 1 1 [.int .u8 c] rfl rfl (cell_one_new _ _ _) (by intro u hu; simp at hu; subst hu; rfl) (by unfold maxLen; omega) (by omega) (by simp; omega) ?_)
  intro v' w2 hown' hgrow _ _
  have hlt : b < w1.heap.size := (Array.getElem?_eq_some_iff.1 hbk).1
  have hb2 : w2.heap[b]? = some (.cells #[.pointer (some ⟨b, 0, none⟩), v] 64 (0, 0)) := (hgrow.block b (by simp; omega) (fun e => hne e.symm)).trans ((Lib.alloc_old w1 _ b hlt).trans hbk)
  have d1 : w2.cell? ⟨b, 1, none⟩ = some v := by rw [Lib.cell_of_heap hb2]; rfl
  have f1 : w2.frozen? ⟨b, 1, none⟩ = false := Lib.frozen_of_heap hb2 1
  have hpost : BldPost B b (bs ++ [.int .u8 c]) w (w2.setCell ⟨b, 1, none⟩ v') :=
    ⟨Lib.BuilderAt.put hB hb2 (by simpa using hown') neB,
      ((hb1.alloc (by omega) _).grown hgrow (by simp; omega) (fun k hk => (hown.lt k hk).1)).setCell (p := ⟨b, 1, none⟩) hB _,
      ((hk1.alloc _).grown hgrow (own_kind (hown.alloc _))).setCell ⟨b, 1, none⟩ rfl _⟩
  obtain ⟨A', c', rfl, _⟩ := own_form hown'
  go_wp2
  go_ret
  exact ⟨rfl, hpost⟩

end Go.Proofs.Ytgacjpkgpegcdaa
