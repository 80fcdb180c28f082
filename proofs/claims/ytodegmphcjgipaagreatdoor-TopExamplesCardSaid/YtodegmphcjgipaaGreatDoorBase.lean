/-
  Plain helpers of this seat's proofs: bytes as values, a byte buffer of the call's own, the row's last step behind calls that make memory.
-/
import Derived.Test.YtodegmphcjgipaaGreatDoorRows
import Derived.WalkKit
import Derived.WalkSpells
import Derived.WalkLawsBesides
import Derived.Handy
import Derived.Lib.Hide
import Derived.Lib.BufSteps
import Derived.Deep.DeepFit
import Derived.Deep.DeepMust
import Derived.Laws.IdiomStrings
import Derived.Deep.RegionWith
import Derived.Deep.RegionHeld3
import Derived.Deep.QuietTactic
import Derived.BigQuiet
import Derived.Deep.DeepCutAuto
namespace Go.Proofs.YtodegmphcjgipaaGreatDoor
open Go.RowKit

/-- A byte as a value. -/
def Bv (c : UInt8) : Value := .int .u8 (c.toNat : Int)
/-- A string value of a list of bytes. -/
abbrev Sv (l : List UInt8) : Value := .string ⟨l.toArray⟩

/-- A number below 2^64, behind a name. -/
def U64 (n : Nat) : Prop := n < 18446744073709551616

/-- A slice type with its element type's row of the program's table. -/
structure SlTy (P : Program) (t e : TypeId) (z : Value) (size bytes : Nat) : Prop where
  und : P.underlying t = some (.slice e)
  info : ∃ i, P.info? e = some i ∧ i.zero = some z ∧ i.size = size ∧ i.bytes = bytes

/-- 'b = append(b, c)' on a byte buffer of the call's own. -/
theorem app_byte {P : Program} {B : Nat} {e : TypeId} {v : Value} {n : Nat} {xs : List Value} {W0 w0 : World} {c : Int} (hb : Lib.OwnBuf B e v n xs W0 w0)
    {t : TypeId} (hT : SlTy P t e (.int .u8 0) 1 1) (hlen : n + 1 ≤ 140737488355328)
    {ops : Array Oper} {rest : List Oper} {o : Oper} {a : Act} {Q : Exit → Act → World → Prop}
    (h : ∀ v' w', Lib.OwnBuf B e v' (n + 1) (xs ++ [.int .u8 c]) W0 w' → wpList P ops Q rest (a.put o.dst v') w')
    (hgd : o.guard = none) (s x : Operand) (ho : o.op = .call { callee := .builtin .append, args := #[s, x], argTypes := #[t, t] })
    (hs : a.eval s = v) (hx : a.eval x = .slice (some ⟨w0.heap.size, 0, none⟩) 1 1) : wpList P ops Q (o :: rest) a (w0.alloc (.cells #[.int .u8 c] e)) := by
  obtain ⟨ht, i, hi, hz, h1, h2⟩ := hT
  exact Lib.wpList_append_byte hgd s x t ho B e i ht hi hz h1 h2 v n xs hs W0 w0 c hb hx hlen h

/-- 'b = append(b, s...)' of a string. -/
theorem app_text {P : Program} {B : Nat} {e : TypeId} {v : Value} {n : Nat} {xs : List Value} {W0 w : World} (hb : Lib.OwnBuf B e v n xs W0 w)
    {t u : TypeId} (hT : SlTy P t e (.int .u8 0) 1 1) (hu : P.underlying u = some .string) (l : List UInt8) (hlen : n + l.length ≤ 140737488355328)
    {ops : Array Oper} {rest : List Oper} {o : Oper} {a : Act} {Q : Exit → Act → World → Prop}
    (h : ∀ v' w', Lib.OwnBuf B e v' (n + l.length) (xs ++ l.map Bv) W0 w' → wpList P ops Q rest (a.put o.dst v') w')
    (hgd : o.guard = none) (s x : Operand) (ho : o.op = .call { callee := .builtin .append, args := #[s, x], argTypes := #[t, u] })
    (hs : a.eval s = v) (hx : a.eval x = .string ⟨l.toArray⟩) : wpList P ops Q (o :: rest) a w := by
  obtain ⟨ht, i, hi, hz, h1, h2⟩ := hT
  exact Lib.wpList_append_text hgd s x t u ho B e i ht hu hi hz h1 h2 v n xs hs W0 hb ⟨l.toArray⟩ hx hlen h

/-- 'string(b)' of such a buffer. -/
theorem buf_str {P : Program} {B : Nat} {e : TypeId} {v : Value} {n : Nat} {l : List UInt8} {W0 w : World} (hb : Lib.OwnBuf B e v n (l.map Bv) W0 w)
    {t u : TypeId} (hT : SlTy P t e (.int .u8 0) 1 1) (he : P.underlying e = some (.int .u8)) (hu : P.underlying u = some .string) : (convert t u v).run P w = .ok (Sv l) w := by
  have hn : l.length = n := by simpa using hb.1.1
  subst hn
  rcases hb.1.2 with ⟨rfl, h0⟩ | ⟨g, cap, cur, fz, rfl, _, hg, _, hcap, _, hcs, htake⟩
  · have h0' : l = [] := List.eq_nil_of_length_eq_zero h0
    subst h0'
    rw [run_convert_bytes_string w t u e none _ _ hT.und he hu]
    rfl
  · have hcells := hb.1.cells (g := g) rfl
    refine run_convert_bytes_back w t u e ⟨g, 0, none⟩ cap l hT.und he hu (fun j hj => ?_)
    exact hcells j _ (by simp [Bv, List.getElem?_eq_getElem hj])

theorem data_add (a b : ByteArray) : (a ++ b).data.toList = a.data.toList ++ b.data.toList := by simp [ByteArray.data_append]
theorem size_list (a : ByteArray) : a.data.toList.length = a.size := by simp
theorem size_mk (l : List UInt8) : (ByteArray.mk l.toArray).size = l.length := by simp [ByteArray.size]
theorem take_mk (l : List UInt8) (k : Nat) : ((ByteArray.mk l.toArray).extract 0 k).data.toList = l.take k := by simp [ByteArray.data_extract]
theorem take_eq {T : ByteArray} {n : Nat} {l : List UInt8} (h : l = T.data.toList.take n) : T.extract 0 n = ⟨l.toArray⟩ := by
  apply ByteArray.ext
  apply Array.toList_inj.1
  simp [ByteArray.data_extract, h]
theorem ret_bool {b : Bool} (h : b = true) : Ending.returned (.bool b) = .returned (.bool true) := by rw [h]
/-- One call behind another: nothing that was there has turned. -/
theorem bt {w w1 w2 : World} (h : Below w.heap.size w w1) (k : Below w1.heap.size w1 w2) : Below w.heap.size w w2 := h.trans (k.mono h.size)

/-- 'string([]byte{c})'. -/
theorem byte_str {P : Program} {t u e : TypeId} (hT : SlTy P t e (.int .u8 0) 1 1) (he : P.underlying e = some (.int .u8)) (hu : P.underlying u = some .string) (n : Nat) (hn : n < 256) (w : World) :
    (convert t u (.slice (some ⟨w.heap.size, 0, none⟩) 1 1)).run P (w.alloc (.cells #[.int .u8 (n : Int)] e)) = .ok (Sv [UInt8.ofNat n]) (w.alloc (.cells #[.int .u8 (n : Int)] e)) := by
  refine run_convert_bytes_back _ t u e ⟨w.heap.size, 0, none⟩ 1 [UInt8.ofNat n] hT.und he hu (fun j hj => ?_)
  have hj0 : j = 0 := by simpa using hj
  subst hj0
  have h0 : (⟨w.heap.size, 0, none⟩ : Addr).add 0 = ⟨w.heap.size, 0, none⟩ := by simp [Addr.add]
  rw [h0, World.cell?_alloc_mark]
  simp
  omega
/-- The same, wherever the byte lies. -/
theorem byte_str_at {P : Program} {t u e : TypeId} (hT : SlTy P t e (.int .u8 0) 1 1) (he : P.underlying e = some (.int .u8)) (hu : P.underlying u = some .string) (n : Nat) (hn : n < 256) (w : World) (b : Nat)
    (hc : w.cell? ⟨b, 0, none⟩ = some (.int .u8 (n : Int))) : (convert t u (.slice (some ⟨b, 0, none⟩) 1 1)).run P w = .ok (Sv [UInt8.ofNat n]) w := by
  refine run_convert_bytes_back _ t u e ⟨b, 0, none⟩ 1 [UInt8.ofNat n] hT.und he hu (fun j hj => ?_)
  have hj0 : j = 0 := by simpa using hj
  subst hj0
  have h0 : (⟨b, 0, none⟩ : Addr).add 0 = ⟨b, 0, none⟩ := by simp [Addr.add]
  rw [h0, hc]
  simp
  omega
theorem sv_add (a b : List UInt8) : (ByteArray.mk a.toArray ++ ByteArray.mk b.toArray) = ⟨(a ++ b).toArray⟩ := ByteArray.mk_append_mk a b

/-- What a well-formed number of a kind is. -/
theorem wf_u64 {x : Int} (h : (Lit.int .u64 x).wf = true) : ∃ n : Nat, x = n ∧ U64 n := by
  simp [Lit.wf, IntKind.min, IntKind.max, IntKind.signed, IntKind.bits] at h
  exact ⟨x.toNat, by omega, by unfold U64; omega⟩
theorem wf_u8 {x : Int} (h : (Lit.int .u8 x).wf = true) : ∃ n : Nat, x = n ∧ n < 256 := by
  simp [Lit.wf, IntKind.min, IntKind.max, IntKind.signed, IntKind.bits] at h
  exact ⟨x.toNat, by omega, by omega⟩
/-- A number within int64's range, behind a name. -/
def I64 (n : Int) : Prop := -9223372036854775808 ≤ n ∧ n ≤ 9223372036854775807
theorem wf_i64 {x : Int} (h : (Lit.int .i64 x).wf = true) : I64 x := by
  simp [Lit.wf, IntKind.min, IntKind.max, IntKind.signed, IntKind.bits] at h
  unfold I64; omega

/-! ### A slice that is read -/
theorem block_of_add (a : Addr) (n : Nat) : (a.add n).block = a.block := by unfold Addr.add; split <;> rfl
theorem add_of_add (a : Addr) (i j : Nat) : (a.add i).add j = a.add (i + j) := by
  unfold Addr.add
  by_cases hi : i = 0 <;> by_cases hj : j = 0 <;> simp [hi, hj, Nat.add_assoc]

/-- The slice at A holds the cells xs, in a block below B. -/
def Rd (w : World) (B : Nat) (A : Option Addr) (xs : List Value) : Prop :=
  xs = [] ∨ ∃ ad, A = some ad ∧ ad.block < B ∧ ∀ (j : Nat) (u : Value), xs[j]? = some u → w.cell? (ad.add j) = some u
theorem Rd.at_ {w : World} {B : Nat} {A : Option Addr} {xs : List Value} {j : Nat} {u : Value} (h : Rd w B A xs) (hj : xs[j]? = some u) : ∃ ad, A = some ad ∧ ad.block < B ∧ w.cell? (ad.add j) = some u := by
  rcases h with rfl | ⟨ad, e, hb, hc⟩
  · simp at hj
  · exact ⟨ad, e, hb, hc j u hj⟩
theorem Rd.head {w : World} {B : Nat} {A : Option Addr} {xs : List Value} {u : Value} (h : Rd w B A (u :: xs)) : ∃ ad, A = some ad ∧ ad.block < B ∧ w.cell? ad = some u := by
  obtain ⟨ad, e, hb, hc⟩ := h.at_ (j := 0) (u := u) (by simp)
  exact ⟨ad, e, hb, by simpa [Addr.add] using hc⟩
theorem Rd.keep {w w' : World} {B : Nat} {A : Option Addr} {xs : List Value} (h : Rd w B A xs) (hk : ∀ p : Addr, p.block < B → w'.cell? p = w.cell? p) : Rd w' B A xs := by
  rcases h with h | ⟨ad, e, hb, hc⟩
  · exact .inl h
  · exact .inr ⟨ad, e, hb, fun j u hj => (hk _ (by rw [block_of_add]; exact hb)).trans (hc j u hj)⟩
theorem Rd.more {w : World} {B B' : Nat} {A : Option Addr} {xs : List Value} (h : Rd w B A xs) (hB : B ≤ B') : Rd w B' A xs := by
  rcases h with h | ⟨ad, e, hb, hc⟩
  · exact .inl h
  · exact .inr ⟨ad, e, by omega, hc⟩
theorem Rd.below {w w' : World} {B : Nat} {A : Option Addr} {xs : List Value} (h : Rd w B A xs) (hb : Below B w w') : Rd w' B A xs := h.keep fun _ hp => hb.cell hp
/-- The same after a call: the bound moves with the heap. -/
theorem Rd.call {w w' : World} {A : Option Addr} {xs : List Value} (h : Rd w w.heap.size A xs) (hb : Below w.heap.size w w') : Rd w' w'.heap.size A xs := (h.below hb).more hb.size
theorem Rd.drewN {w : World} {A : Option Addr} {xs : List Value} (h : Rd w w.heap.size A xs) (q : Nat) : Rd (w.drewN q) (w.drewN q).heap.size A xs := h
theorem Rd.cut {w : World} {B : Nat} {A : Option Addr} {xs : List Value} (h : Rd w B A xs) (k m cap size : Nat) (hk : m = k * size) (hc : xs.length ≤ cap * size) :
    Rd w B (if cap = k then A else A.map (·.add m)) (xs.drop m) := by
  rcases h with rfl | ⟨ad, rfl, hb, hcell⟩
  · exact .inl (by simp)
  · by_cases hck : cap = k
    · subst hck
      exact .inl (List.drop_eq_nil_iff.2 (by omega))
    · rw [if_neg hck]
      refine .inr ⟨ad.add m, rfl, by rw [block_of_add]; exact hb, fun j u hu => ?_⟩
      rw [add_of_add]
      exact hcell _ u (by rw [← hu, List.getElem?_drop])
theorem Rd.take {w : World} {B : Nat} {A : Option Addr} {xs : List Value} (h : Rd w B A xs) (k : Nat) : Rd w B A (xs.take k) := by
  rcases h with rfl | ⟨ad, rfl, hb, hcell⟩
  · exact .inl (by simp)
  · refine .inr ⟨ad, rfl, hb, fun j u hu => hcell j u ?_⟩
    rw [List.getElem?_take] at hu
    split at hu
    · exact hu
    · cases hu
theorem Rd.of_own {w : World} {base : Nat} {e : TypeId} {size n c : Nat} {A : Option Addr} {xs : List Value} (h : w.ownsRow base e size (.slice A n c) n xs) : Rd w w.heap.size A xs := by
  rcases h.2 with ⟨hv, h0⟩ | ⟨g, cap, cur, hv, hbg, hg, _⟩
  · exact .inl (List.eq_nil_of_length_eq_zero (by rw [h.1, h0]; omega))
  · have hA : A = some ⟨g, 0, none⟩ := by injection hv
    subst hA
    exact .inr ⟨_, rfl, (Array.getElem?_eq_some_iff.1 hg).1, fun j u hj => h.cells (g := g) rfl j u hj⟩
theorem own_form {w : World} {base : Nat} {e : TypeId} {size n : Nat} {v : Value} {xs : List Value} (h : w.ownsRow base e size v n xs) : ∃ A c, v = .slice A n c ∧ n ≤ c := by
  rcases h.2 with ⟨rfl, rfl⟩ | ⟨g, cap, cur, rfl, _, _, hnc, _⟩
  · exact ⟨none, 0, rfl, Nat.le_refl _⟩
  · exact ⟨_, cap, rfl, hnc⟩

/-- A list of numbers of int64's (int's) range as cells. -/
abbrev Iv (z : Int) : Value := .int .i64 z

theorem sadd {P : Program} {a b : List UInt8} (h : a.length + b.length ≤ 1000000000000000) (w : World) : (Op.stringOp .add ⟨a.toArray⟩ ⟨b.toArray⟩).run P w = .ok (.string ⟨(a ++ b).toArray⟩) w := by
  rw [run_string_add_sum w _ _ (by rw [size_mk, size_mk]; omega), ByteArray.mk_append_mk]
theorem keep1 {wb X w2 : World} {p : Addr} {v : Value} (h0 : wb.cell? p = some v) (hp : p.block < wb.heap.size) (hb : Below X.heap.size X w2) (hX : Below wb.heap.size wb X) : w2.cell? p = some v ∧ Below wb.heap.size wb w2 :=
  ⟨((hX.trans (hb.mono hX.size)).cell hp).trans h0, hX.trans (hb.mono hX.size)⟩

theorem wf_i64s {zs : List Int} (h : ∀ z ∈ zs, (Lit.int .i64 z).wf = true) : ∀ z ∈ zs, I64 z := fun z hz => wf_i64 (h z hz)

end Go.Proofs.YtodegmphcjgipaaGreatDoor
