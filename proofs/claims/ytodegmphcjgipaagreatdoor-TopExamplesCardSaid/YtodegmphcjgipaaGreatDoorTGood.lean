/-
  The evaluator's table is the program's.
-/
import Derived.Test.YtodegmphcjgipaaGreatDoorTSet
import Derived.Test.YtodegmphcjgipaaGreatDoorTDelta
import Derived.Test.YtodegmphcjgipaaGreatDoorTChunk
import Derived.Laws.Externs
import Derived.Laws.StructEq
import Derived.Lib.Bytealg
import Derived.Lib.Builder
namespace Go.Proofs.YtodegmphcjgipaaGreatDoor
namespace Ev
open Go Go.RowKit

theorem cmp_lex : ∀ a b : List UInt8, bi (ltL (a.map UInt8.toNat) (b.map UInt8.toNat)) (Int.negSucc 0) (bi (eqL (a.map UInt8.toNat) (b.map UInt8.toNat)) (Int.ofNat 0) (Int.ofNat 1)) = Lib.compareBytes a b
  | [], [] => rfl
  | [], _ :: _ => rfl
  | _ :: _, [] => rfl
  | x :: a, y :: b => by
    have ih := cmp_lex a b
    show bi (bi (Nat.blt x.toNat y.toNat) true (bi (Nat.beq x.toNat y.toNat) (ltL (a.map UInt8.toNat) (b.map UInt8.toNat)) false)) (Int.negSucc 0) (bi (bi (Nat.beq x.toNat y.toNat) (eqL (a.map UInt8.toNat) (b.map UInt8.toNat)) false) (Int.ofNat 0) (Int.ofNat 1)) = if x < y then -1 else if y < x then 1 else Lib.compareBytes a b
    cases h1 : Nat.blt x.toNat y.toNat with
    | true => rw [if_pos (UInt8.lt_iff_toNat_lt.2 (blt_t h1))]; rfl
    | false =>
      have h1' := blt_f h1
      rw [if_neg (fun e => by have := UInt8.lt_iff_toNat_lt.1 e; omega)]
      cases h2 : Nat.beq x.toNat y.toNat with
      | true =>
        have := beq_t h2
        rw [if_neg (fun e => by have := UInt8.lt_iff_toNat_lt.1 e; omega)]
        exact ih
      | false =>
        have := beq_f h2
        rw [if_pos (UInt8.lt_iff_toNat_lt.2 (by omega))]; rfl
theorem str_inv {ρ : Map} {l : List Nat} {x : Value} (h : Rl ρ (.str l) x) : ∃ s : ByteArray, l = s.data.toList.map UInt8.toNat ∧ x = .string s := by
  generalize hv : V.str l = vv at h
  cases h <;> cases hv
  exact ⟨_, rfl, rfl⟩
theorem three_of {args : List V} {a b c : V} (hl : Nat.beq (len args) 3 = true) (ha : lget args 0 = some a) (hb : lget args 1 = some b) (hc : lget args 2 = some c) : args = [a, b, c] := by
  rw [len_eq] at hl
  rw [lget_eq] at ha hb hc
  match args, beq_t hl with
  | [x, y, z], _ => simp at ha hb hc; subst ha hb hc; rfl
theorem one_of {args : List V} {a : V} (hl : Nat.beq (len args) 1 = true) (ha : lget args 0 = some a) : args = [a] := by
  rw [len_eq] at hl
  rw [lget_eq] at ha
  match args, beq_t hl with
  | [x], _ => simp at ha; subst ha; rfl
theorem u64?_some {β : Type} {v : V} {k : Nat → Option β} {r : β} (h : u64? v k = some r) : ∃ m : Nat, v = .int .u64 (m : Int) ∧ k m = some r := by
  obtain ⟨i, n, rfl, h2⟩ := V.onInt_some h
  obtain ⟨h3, h4⟩ := bi_none h2
  obtain ⟨m, rfl, h5⟩ := nat?_some h4
  rw [keq_t h3]
  exact ⟨m, rfl, h5⟩
theorem ext_same : ∀ (ρ : Map) args st v st' (xs : Array Value) (w : World), extGo .noEscape args st = .val v st' → Rls ρ args xs.toList → ∃ x, (callFunc 194 xs).run Tryz.prog w = .ok (.value x) w ∧ Rl ρ v x := by
  intro ρ args st v st' xs w h hr
  obtain ⟨h1, -⟩ := rv_val (show rv st (bi (Nat.beq (len args) 1) (lget args 0) none) = .val v st' from h)
  obtain ⟨h2, h3⟩ := bi_none h1
  rw [one_of h2 h3] at hr
  obtain ⟨x, rfl, hx⟩ := one_arg hr
  refine ⟨x, ?_, hx⟩
  rw [run_callFunc_extern Tryz.func194 (by kernel_rfl) (by kernel_rfl) (by kernel_rfl) (e := Extern.AbiNoEscape.same) (by kernel_rfl), Lib.run_noEscape]
  rfl
theorem ext_cmp : ∀ (ρ : Map) args st v st' (xs : Array Value) (w : World), extGo .cmpString args st = .val v st' → Rls ρ args xs.toList → ∃ x, (callFunc 361 xs).run Tryz.prog w = .ok (.value x) w ∧ Rl ρ v x := by
  intro ρ args st v st' xs w h hr
  obtain ⟨h1, -⟩ := rv_val (show rv st (bi (Nat.beq (len args) 2) (ob (lget args 0) fun a => ob (lget args 1) fun b => a.onStr fun a => b.onStr fun b => some (V.int .i64 (bi (ltL a b) (.negSucc 0) (bi (eqL a b) (.ofNat 0) (.ofNat 1))))) none) = .val v st' from h)
  obtain ⟨h2, h3⟩ := bi_none h1
  obtain ⟨a, h4, h5⟩ := ob_some h3
  obtain ⟨b, h6, h7⟩ := ob_some h5
  obtain ⟨la, rfl, h8⟩ := V.onStr_some h7
  obtain ⟨lb, rfl, h9⟩ := V.onStr_some h8
  cases h9
  rw [two_of h2 h4 h6] at hr
  obtain ⟨x, y, rfl, hx, hy⟩ := two_args hr
  obtain ⟨s, rfl, rfl⟩ := str_inv hx
  obtain ⟨t, rfl, rfl⟩ := str_inv hy
  rw [cmp_lex]
  refine ⟨.int .i64 (Lib.compareBytes s.data.toList t.data.toList), ?_, .int _ _⟩
  rw [run_callFunc_extern Tryz.func361 (by kernel_rfl) (by kernel_rfl) (by kernel_rfl) (e := Extern.BytealgCompare.compare) (by kernel_rfl), Lib.run_compareString]
  rfl
theorem ext_add : ∀ (ρ : Map) args st v st' (xs : Array Value) (w : World), extGo .add64 args st = .val v st' → Rls ρ args xs.toList → ∃ x, (callFunc 335 xs).run Tryz.prog w = .ok (.value x) w ∧ Rl ρ v x := by
  intro ρ args st v st' xs w h hr
  obtain ⟨h1, -⟩ := rv_val (show rv st (bi (Nat.beq (len args) 3) (ob (lget args 0) fun a => ob (lget args 1) fun b => ob (lget args 2) fun c => u64? a fun x => u64? b fun y => u64? c fun c => bi (Nat.ble c 1) (some (V.tup [.int .u64 (.ofNat (Nat.mod (Nat.add (Nat.add x y) c) 18446744073709551616)), .int .u64 (.ofNat (Nat.div (Nat.add (Nat.add x y) c) 18446744073709551616))])) none) none) = .val v st' from h)
  obtain ⟨h2, h3⟩ := bi_none h1
  obtain ⟨a, h4, h5⟩ := ob_some h3
  obtain ⟨b, h6, h7⟩ := ob_some h5
  obtain ⟨c, h8, h9⟩ := ob_some h7
  obtain ⟨p, rfl, h10⟩ := u64?_some h9
  obtain ⟨q, rfl, h11⟩ := u64?_some h10
  obtain ⟨r, rfl, h12⟩ := u64?_some h11
  obtain ⟨h13, h14⟩ := bi_none h12
  cases h14
  rw [three_of h2 h4 h6 h8] at hr
  have hx : xs = #[.int .u64 (p : Int), .int .u64 (q : Int), .int .u64 (r : Int)] := by
    obtain ⟨l⟩ := xs
    cases hr with
    | cons e1 t1 => cases t1 with
      | cons e2 t2 => cases t2 with
        | cons e3 t3 => cases t3; rw [int_inv e1, int_inv e2, int_inv e3]
  subst hx
  refine ⟨_, ?_, .tup _ #[.int .u64 (((p + q + r) % 18446744073709551616 : Nat) : Int), .int .u64 (((p + q + r) / 18446744073709551616 : Nat) : Int)] (.cons (.int _ _) (.cons (.int _ _) .nil))⟩
  rw [run_callFunc_extern Tryz.func335 (by kernel_rfl) (by kernel_rfl) (by kernel_rfl) (e := add64Entry) (by kernel_rfl), run_add64 _ _ _ (by omega) (by omega) (by omega) (by have := ble_t h13; omega)]
  show Result.ok _ w = _
  congr 4
theorem exts_ok : ∀ f e, exts.get f = some e → ∀ (ρ : Map) args st v st' (xs : Array Value) (w : World), extGo e args st = .val v st' → Rls ρ args xs.toList → ∃ x, (callFunc f xs).run Tryz.prog w = .ok (.value x) w ∧ Rl ρ v x := by
  intro f e h
  unfold exts at h
  rw [Tr.get_set] at h
  by_cases h1 : f = 335
  · rw [if_pos h1] at h; cases h; subst h1; exact ext_add
  · rw [if_neg h1, Tr.get_set] at h
    by_cases h2 : f = 361
    · rw [if_pos h2] at h; cases h; subst h2; exact ext_cmp
    · rw [if_neg h2, Tr.get_set] at h
      by_cases h3 : f = 194
      · rw [if_pos h3] at h; cases h; subst h3; exact ext_same
      · rw [if_neg h3, Tr.get_nil] at h; cases h

set_option maxRecDepth 100000 in
theorem meth_Len (x : Value) (w : World) : (method (Tryz.prog.types.size + Made.depth) 342 x "Len").run Tryz.prog w = .ok (235, x) w := by kernel_rfl
set_option maxRecDepth 100000 in
theorem meth_Less (x : Value) (w : World) : (method (Tryz.prog.types.size + Made.depth) 342 x "Less").run Tryz.prog w = .ok (435, x) w := by kernel_rfl
set_option maxRecDepth 100000 in
theorem meth_Pop (x : Value) (w : World) : (method (Tryz.prog.types.size + Made.depth) 342 x "Pop").run Tryz.prog w = .ok (436, x) w := by kernel_rfl
set_option maxRecDepth 100000 in
theorem meth_Push (x : Value) (w : World) : (method (Tryz.prog.types.size + Made.depth) 342 x "Push").run Tryz.prog w = .ok (437, x) w := by kernel_rfl
set_option maxRecDepth 100000 in
theorem meth_Swap (x : Value) (w : World) : (method (Tryz.prog.types.size + Made.depth) 342 x "Swap").run Tryz.prog w = .ok (438, x) w := by kernel_rfl
set_option maxRecDepth 100000 in
theorem meth_ok : ∀ t m f, meths t m = some f → ∀ x w, (method (Tryz.prog.types.size + Made.depth) t x m).run Tryz.prog w = .ok (f, x) w := by
  intro t m f h x w
  obtain ⟨h1, h2⟩ := bi_none (show bi (Nat.beq t 342) _ none = some f from h)
  have := beq_t h1
  subst this
  have step : ∀ {s : String} {k : FuncId} {r : Option FuncId}, bi (m == s) (some k) r = some f → (m = s ∧ k = f) ∨ r = some f := fun {s k r} e => by
    cases hm : m == s with
    | true => rw [hm, bi_t] at e; cases e; exact .inl ⟨eq_of_beq hm, rfl⟩
    | false => rw [hm, bi_f] at e; exact .inr e
  rcases step h2 with ⟨rfl, rfl⟩ | h2
  · exact meth_Len x w
  rcases step h2 with ⟨rfl, rfl⟩ | h2
  · exact meth_Less x w
  rcases step h2 with ⟨rfl, rfl⟩ | h2
  · exact meth_Pop x w
  rcases step h2 with ⟨rfl, rfl⟩ | h2
  · exact meth_Push x w
  rcases step h2 with ⟨rfl, rfl⟩ | h2
  · exact meth_Swap x w
  cases h2

/-- equality of structs -/
theorem agg_cons {z : V} {zs a : List V} {q : Bool} (h : eqAgg (z :: zs) a = some q) : ∃ u a' e e', a = u :: a' ∧ eqScal z u = some e ∧ eqAgg zs a' = some e' ∧ q = (e && e') := by
  cases a with
  | nil => cases (show (none : Option Bool) = some q from h)
  | cons u a' =>
    obtain ⟨e, h1, h2⟩ := ob_some (show ob (eqScal z u) (fun e => ob (eqAgg zs a') fun e' => some (bi e e' false)) = some q from h)
    obtain ⟨e', h3, h4⟩ := ob_some h2
    cases h4
    exact ⟨u, a', e, e', rfl, h1, h3, by cases e <;> rfl⟩
theorem agg_nil {a : List V} {q : Bool} (h : eqAgg [] a = some q) : a = [] ∧ q = true := by
  cases a with
  | nil => cases (show some true = some q from h); exact ⟨rfl, rfl⟩
  | cons u a' => cases (show (none : Option Bool) = some q from h)
theorem scal_bool {x e : Bool} {u : V} (h : eqScal (.bool x) u = some e) : ∃ y, u = .bool y ∧ e = (x == y) := by
  obtain ⟨y, rfl, h2⟩ := V.onBool_some h
  cases h2
  exact ⟨y, rfl, eqB_eq x y⟩
theorem scal_int {k : IntKind} {x : Int} {e : Bool} {u : V} (h : eqScal (.int k x) u = some e) : ∃ y, u = .int k y ∧ e = (x == y) := by
  obtain ⟨j, y, rfl, h2⟩ := V.onInt_some h
  obtain ⟨h3, h4⟩ := bi_none h2
  cases h4
  rw [← keq_t h3]
  exact ⟨y, rfl, eqI_eq x y⟩
theorem scal_str {x : List Nat} {e : Bool} {u : V} (h : eqScal (.str x) u = some e) : ∃ y, u = .str y ∧ e = eqL x y := by
  obtain ⟨y, rfl, h2⟩ := V.onStr_some h
  cases h2
  exact ⟨y, rfl, rfl⟩
theorem info_str (s t : ByteArray) : (s.toList == t.toList) = eqL (s.data.toList.map UInt8.toNat) (t.data.toList.map UInt8.toNat) := by rw [eqL_eq, Lib.toList_data, Lib.toList_data]
end Ev
end Go.Proofs.YtodegmphcjgipaaGreatDoor
