/-
  Equality of values and of ranks, cell by cell.
-/
import Derived.Test.YtodegmphcjgipaaGreatDoorTGood
namespace Go.Proofs.YtodegmphcjgipaaGreatDoor
namespace Ev
open Go Go.RowKit

theorem fields_value : (Tryz.prog.fieldsOf 37).toList.map (fun f => (f.name == "_", f.type, f.offset)) = [(false, 4, 0), (false, 2, 1), (false, 9, 2)] := by kernel_rfl
theorem fields_rank : (Tryz.prog.fieldsOf 83).toList.map (fun f => (f.name == "_", f.type, f.offset)) = [(false, 37, 0), (false, 2, 3)] := by kernel_rfl
theorem fields_zone : (Tryz.prog.fieldsOf 232).toList.map (fun f => (f.name == "_", f.type, f.offset)) = [(false, 3, 0), (false, 3, 1), (false, 37, 2), (false, 37, 5)] := by kernel_rfl
theorem und_zone : Tryz.prog.underlying 232 = some (.struct (Tryz.prog.fieldsOf 232)) := by kernel_rfl
theorem stood_zone : Tryz.prog.stoodInHeld 232 = false := by kernel_rfl
theorem und_value : Tryz.prog.underlying 37 = some (.struct (Tryz.prog.fieldsOf 37)) := by kernel_rfl
theorem und_rank : Tryz.prog.underlying 83 = some (.struct (Tryz.prog.fieldsOf 83)) := by kernel_rfl
theorem stood_value : Tryz.prog.stoodInHeld 37 = false := by kernel_rfl
theorem stood_rank : Tryz.prog.stoodInHeld 83 = false := by kernel_rfl
theorem pk_bool : Tryz.prog.plainKey 4 = true := by kernel_rfl
theorem pk_int : Tryz.prog.plainKey 2 = true := by kernel_rfl
theorem pk_int0 : Tryz.prog.plainKey 3 = true := by kernel_rfl
theorem pk_str : Tryz.prog.plainKey 9 = true := by kernel_rfl
theorem fields_cons {P : Program} {d : Nat} {xs ys : Array Value} {f : Field} {fs : List Field} {w : World} (hn : (f.name == "_") = false) {a b : Value} {r : Bool} (ha : (Go.part f.type xs f.offset).run P w = .ok a w) (hb : (Go.part f.type ys f.offset).run P w = .ok b w)
    (he : (Op.equalIn d f.type a b).run P w = .ok r w) {q : Bool} (hr : (Op.eqFields d xs ys fs).run P w = .ok q w) : (Op.eqFields d xs ys (f :: fs)).run P w = .ok (r && q) w := by
  unfold Op.eqFields
  rw [if_pos (by simpa using hn)]
  simp only [Sem.run_bind, ha, hb, he, Result.andThen_ok]
  cases r with
  | false => rfl
  | true => simpa using hr
theorem map3 {α β : Type} {g : α → β} {l : List α} {x y z : β} (h : l.map g = [x, y, z]) : ∃ a b c, l = [a, b, c] ∧ g a = x ∧ g b = y ∧ g c = z := by
  match l, h with
  | [a, b, c], h => simp at h; exact ⟨a, b, c, rfl, h⟩
theorem map2 {α β : Type} {g : α → β} {l : List α} {x y : β} (h : l.map g = [x, y]) : ∃ a b, l = [a, b] ∧ g a = x ∧ g b = y := by
  match l, h with
  | [a, b], h => simp at h; exact ⟨a, b, rfl, h⟩
theorem map4 {α β : Type} {g : α → β} {l : List α} {x y z u : β} (h : l.map g = [x, y, z, u]) : ∃ a b c d, l = [a, b, c, d] ∧ g a = x ∧ g b = y ∧ g c = z ∧ g d = u := by
  match l, h with
  | [a, b, c, d], h => simp at h; exact ⟨a, b, c, d, rfl, h⟩
theorem eq_value (d : Nat) (a b : Bool) (m n : Int) (s t : ByteArray) (w : World) : (Op.equalIn (d + 2) 37 (.agg #[.bool a, .int .i64 m, .string s]) (.agg #[.bool b, .int .i64 n, .string t])).run Tryz.prog w = .ok ((a == b) && ((m == n) && ((s.toList == t.toList) && true))) w := by
  rw [run_equalIn_agg w (d + 1) _ _ _ und_value stood_value]
  obtain ⟨f, g, h, e, e1, e2, e3⟩ := map3 fields_value
  rw [e]
  obtain ⟨n1, t1, o1⟩ : (f.name == "_") = false ∧ f.type = 4 ∧ f.offset = 0 := by simpa using e1
  obtain ⟨n2, t2, o2⟩ : (g.name == "_") = false ∧ g.type = 2 ∧ g.offset = 1 := by simpa using e2
  obtain ⟨n3, t3, o3⟩ : (h.name == "_") = false ∧ h.type = 9 ∧ h.offset = 2 := by simpa using e3
  refine fields_cons n1 (a := .bool a) (b := .bool b) (by rw [t1, o1]; exact run_part_plain w pk_bool rfl) (by rw [t1, o1]; exact run_part_plain w pk_bool rfl) (by rw [t1]; exact run_equalIn_bool' w d _ a b Tryz.underlying4) ?_
  refine fields_cons n2 (a := .int .i64 m) (b := .int .i64 n) (by rw [t2, o2]; exact run_part_plain w pk_int rfl) (by rw [t2, o2]; exact run_part_plain w pk_int rfl) (by rw [t2]; exact run_equalIn_int w d _ _ _ m n Tryz.underlying2) ?_
  refine fields_cons n3 (a := .string s) (b := .string t) (by rw [t3, o3]; exact run_part_plain w pk_str rfl) (by rw [t3, o3]; exact run_part_plain w pk_str rfl) (by rw [t3]; exact run_equalIn_string w d _ s t Tryz.underlying9) ?_
  rfl
theorem part_key (a : Bool) (m : Int) (s : ByteArray) (q : Int) (w : World) : (Go.part 37 #[.bool a, .int .i64 m, .string s, .int .i64 q] 0).run Tryz.prog w = .ok (.agg #[.bool a, .int .i64 m, .string s]) w := by kernel_rfl
theorem eq_rank (d : Nat) (a b : Bool) (m n : Int) (s t : ByteArray) (p q : Int) (w : World) : (Op.equalIn (d + 3) 83 (.agg #[.bool a, .int .i64 m, .string s, .int .i64 p]) (.agg #[.bool b, .int .i64 n, .string t, .int .i64 q])).run Tryz.prog w = .ok (((a == b) && ((m == n) && ((s.toList == t.toList) && true))) && ((p == q) && true)) w := by
  rw [run_equalIn_agg w (d + 2) _ _ _ und_rank stood_rank]
  obtain ⟨f, g, e, e1, e2⟩ := map2 fields_rank
  rw [e]
  obtain ⟨n1, t1, o1⟩ : (f.name == "_") = false ∧ f.type = 37 ∧ f.offset = 0 := by simpa using e1
  obtain ⟨n2, t2, o2⟩ : (g.name == "_") = false ∧ g.type = 2 ∧ g.offset = 3 := by simpa using e2
  refine fields_cons n1 (by rw [t1, o1]; exact part_key a m s p w) (by rw [t1, o1]; exact part_key b n t q w) (by rw [t1]; exact eq_value d a b m n s t w) ?_
  refine fields_cons n2 (a := .int .i64 p) (b := .int .i64 q) (by rw [t2, o2]; exact run_part_plain w pk_int rfl) (by rw [t2, o2]; exact run_part_plain w pk_int rfl) (by rw [t2]; exact run_equalIn_int w (d + 1) _ _ _ p q Tryz.underlying2) ?_
  rfl
theorem part_min (i j : Int) (a : Bool) (m : Int) (s : ByteArray) (b : Bool) (n : Int) (t : ByteArray) (w : World) : (Go.part 37 #[.int .i64 i, .int .i64 j, .bool a, .int .i64 m, .string s, .bool b, .int .i64 n, .string t] 2).run Tryz.prog w = .ok (.agg #[.bool a, .int .i64 m, .string s]) w := by kernel_rfl
theorem part_max (i j : Int) (a : Bool) (m : Int) (s : ByteArray) (b : Bool) (n : Int) (t : ByteArray) (w : World) : (Go.part 37 #[.int .i64 i, .int .i64 j, .bool a, .int .i64 m, .string s, .bool b, .int .i64 n, .string t] 5).run Tryz.prog w = .ok (.agg #[.bool b, .int .i64 n, .string t]) w := by kernel_rfl
theorem eq_zone (d : Nat) (i j : Int) (a : Bool) (m : Int) (s : ByteArray) (b : Bool) (n : Int) (t : ByteArray) (i' j' : Int) (a' : Bool) (m' : Int) (s' : ByteArray) (b' : Bool) (n' : Int) (t' : ByteArray) (w : World) :
    (Op.equalIn (d + 3) 232 (.agg #[.int .i64 i, .int .i64 j, .bool a, .int .i64 m, .string s, .bool b, .int .i64 n, .string t]) (.agg #[.int .i64 i', .int .i64 j', .bool a', .int .i64 m', .string s', .bool b', .int .i64 n', .string t'])).run Tryz.prog w =
      .ok ((i == i') && ((j == j') && (((a == a') && ((m == m') && ((s.toList == s'.toList) && true))) && (((b == b') && ((n == n') && ((t.toList == t'.toList) && true))) && true)))) w := by
  rw [run_equalIn_agg w (d + 2) _ _ _ und_zone stood_zone]
  obtain ⟨f, g, h, k, e, e1, e2, e3, e4⟩ := map4 fields_zone
  rw [e]
  obtain ⟨n1, t1, o1⟩ : (f.name == "_") = false ∧ f.type = 3 ∧ f.offset = 0 := by simpa using e1
  obtain ⟨n2, t2, o2⟩ : (g.name == "_") = false ∧ g.type = 3 ∧ g.offset = 1 := by simpa using e2
  obtain ⟨n3, t3, o3⟩ : (h.name == "_") = false ∧ h.type = 37 ∧ h.offset = 2 := by simpa using e3
  obtain ⟨n4, t4, o4⟩ : (k.name == "_") = false ∧ k.type = 37 ∧ k.offset = 5 := by simpa using e4
  refine fields_cons n1 (a := .int .i64 i) (b := .int .i64 i') (by rw [t1, o1]; exact run_part_plain w pk_int0 rfl) (by rw [t1, o1]; exact run_part_plain w pk_int0 rfl) (by rw [t1]; exact run_equalIn_int w (d + 1) _ _ _ i i' Tryz.underlying3) ?_
  refine fields_cons n2 (a := .int .i64 j) (b := .int .i64 j') (by rw [t2, o2]; exact run_part_plain w pk_int0 rfl) (by rw [t2, o2]; exact run_part_plain w pk_int0 rfl) (by rw [t2]; exact run_equalIn_int w (d + 1) _ _ _ j j' Tryz.underlying3) ?_
  refine fields_cons n3 (by rw [t3, o3]; exact part_min i j a m s b n t w) (by rw [t3, o3]; exact part_min i' j' a' m' s' b' n' t' w) (by rw [t3]; exact eq_value d a a' m m' s s' w) ?_
  refine fields_cons n4 (by rw [t4, o4]; exact part_max i j a m s b n t w) (by rw [t4, o4]; exact part_max i' j' a' m' s' b' n' t' w) (by rw [t4]; exact eq_value d b b' n n' t t' w) ?_
  rfl
theorem rls_one {ρ : Map} {v : V} {l : List V} {m : List Value} (h : Rls ρ (v :: l) m) : ∃ x r, m = x :: r ∧ Rl ρ v x ∧ Rls ρ l r := by
  cases h with
  | cons h t => exact ⟨_, _, rfl, h, t⟩
theorem rls_nil {ρ : Map} {m : List Value} (h : Rls ρ [] m) : m = [] := by cases h; rfl
theorem of_list {x : Array Value} {l : List Value} (h : x.toList = l) : x = l.toArray := by subst h; simp
theorem zero_value : (types.get 37).map (·.zero) = some [.bool false, .int .i64 0, .str []] := by kernel_rfl
theorem zero_rank : (types.get 83).map (·.zero) = some [.bool false, .int .i64 0, .str [], .int .i64 0] := by kernel_rfl
theorem zero_zone : (types.get 232).map (·.zero) = some [.int .i64 0, .int .i64 0, .bool false, .int .i64 0, .str [], .bool false, .int .i64 0, .str []] := by kernel_rfl
theorem eqOk_value : EqOk Tryz.prog 37 [.bool false, .int .i64 0, .str []] := ⟨by
  intro ρ a b x y q r w hx hy hz h
  obtain ⟨u1, a, c1, k1, rfl, s1, hz, -⟩ := agg_cons hz
  obtain ⟨u2, a, c2, k2, rfl, s2, hz, -⟩ := agg_cons hz
  obtain ⟨u3, a, c3, k3, rfl, s3, hz, -⟩ := agg_cons hz
  obtain ⟨rfl, -⟩ := agg_nil hz
  obtain ⟨y1, rfl, -⟩ := scal_bool s1
  obtain ⟨y2, rfl, -⟩ := scal_int s2
  obtain ⟨y3, rfl, -⟩ := scal_str s3
  obtain ⟨v1, b1, e1, f1, rfl, g1, hh1, rfl⟩ := agg_cons h
  obtain ⟨v2, b2, e2, f2, rfl, g2, hh2, rfl⟩ := agg_cons hh1
  obtain ⟨v3, b3, e3, f3, rfl, g3, hh3, rfl⟩ := agg_cons hh2
  obtain ⟨rfl, rfl⟩ := agg_nil hh3
  obtain ⟨z1, rfl, rfl⟩ := scal_bool g1
  obtain ⟨z2, rfl, rfl⟩ := scal_int g2
  obtain ⟨z3, rfl, rfl⟩ := scal_str g3
  obtain ⟨x1, rx, ex1, hx1, hx⟩ := rls_one hx
  obtain ⟨x2, rx, rfl, hx2, hx⟩ := rls_one hx
  obtain ⟨x3, rx, rfl, hx3, hx⟩ := rls_one hx
  obtain rfl := rls_nil hx
  obtain ⟨y1', ry, ey1, hy1, hy⟩ := rls_one hy
  obtain ⟨y2', ry, rfl, hy2, hy⟩ := rls_one hy
  obtain ⟨y3', ry, rfl, hy3, hy⟩ := rls_one hy
  obtain rfl := rls_nil hy
  obtain rfl := of_list ex1
  obtain rfl := of_list ey1
  obtain rfl := bool_inv hx1
  obtain rfl := bool_inv hy1
  obtain rfl := int_inv hx2
  obtain rfl := int_inv hy2
  obtain ⟨s, rfl, rfl⟩ := str_inv hx3
  obtain ⟨t, rfl, rfl⟩ := str_inv hy3
  rw [← info_str]
  exact eq_value 9998 _ _ _ _ _ _ w⟩
theorem eqOk_rank : EqOk Tryz.prog 83 [.bool false, .int .i64 0, .str [], .int .i64 0] := ⟨by
  intro ρ a b x y q r w hx hy hz h
  obtain ⟨u1, a, c1, k1, rfl, s1, hz, -⟩ := agg_cons hz
  obtain ⟨u2, a, c2, k2, rfl, s2, hz, -⟩ := agg_cons hz
  obtain ⟨u3, a, c3, k3, rfl, s3, hz, -⟩ := agg_cons hz
  obtain ⟨u4, a, c4, k4, rfl, s4, hz, -⟩ := agg_cons hz
  obtain ⟨rfl, -⟩ := agg_nil hz
  obtain ⟨y1, rfl, -⟩ := scal_bool s1
  obtain ⟨y2, rfl, -⟩ := scal_int s2
  obtain ⟨y3, rfl, -⟩ := scal_str s3
  obtain ⟨y4, rfl, -⟩ := scal_int s4
  obtain ⟨v1, b1, e1, f1, rfl, g1, hh1, rfl⟩ := agg_cons h
  obtain ⟨v2, b2, e2, f2, rfl, g2, hh2, rfl⟩ := agg_cons hh1
  obtain ⟨v3, b3, e3, f3, rfl, g3, hh3, rfl⟩ := agg_cons hh2
  obtain ⟨v4, b4, e4, f4, rfl, g4, hh4, rfl⟩ := agg_cons hh3
  obtain ⟨rfl, rfl⟩ := agg_nil hh4
  obtain ⟨z1, rfl, rfl⟩ := scal_bool g1
  obtain ⟨z2, rfl, rfl⟩ := scal_int g2
  obtain ⟨z3, rfl, rfl⟩ := scal_str g3
  obtain ⟨z4, rfl, rfl⟩ := scal_int g4
  obtain ⟨x1, rx, ex1, hx1, hx⟩ := rls_one hx
  obtain ⟨x2, rx, rfl, hx2, hx⟩ := rls_one hx
  obtain ⟨x3, rx, rfl, hx3, hx⟩ := rls_one hx
  obtain ⟨x4, rx, rfl, hx4, hx⟩ := rls_one hx
  obtain rfl := rls_nil hx
  obtain ⟨y1', ry, ey1, hy1, hy⟩ := rls_one hy
  obtain ⟨y2', ry, rfl, hy2, hy⟩ := rls_one hy
  obtain ⟨y3', ry, rfl, hy3, hy⟩ := rls_one hy
  obtain ⟨y4', ry, rfl, hy4, hy⟩ := rls_one hy
  obtain rfl := rls_nil hy
  obtain rfl := of_list ex1
  obtain rfl := of_list ey1
  obtain rfl := bool_inv hx1
  obtain rfl := bool_inv hy1
  obtain rfl := int_inv hx2
  obtain rfl := int_inv hy2
  obtain ⟨s, rfl, rfl⟩ := str_inv hx3
  obtain ⟨t, rfl, rfl⟩ := str_inv hy3
  obtain rfl := int_inv hx4
  obtain rfl := int_inv hy4
  rw [← info_str]
  have := eq_rank 9997 y1 z1 y2 z2 s t y4 z4 w
  rw [show (Op.equal 83 (.agg [Value.bool y1, .int .i64 y2, .string s, .int .i64 y4].toArray) (.agg [Value.bool z1, .int .i64 z2, .string t, .int .i64 z4].toArray)).run Tryz.prog w = _ from this]
  simp [Bool.and_assoc]⟩
theorem eqOk_zone : EqOk Tryz.prog 232 [.int .i64 0, .int .i64 0, .bool false, .int .i64 0, .str [], .bool false, .int .i64 0, .str []] := ⟨by
  intro ρ a b x y q r w hx hy hz h
  obtain ⟨u1, a, c1, k1, rfl, s1, hz, -⟩ := agg_cons hz
  obtain ⟨u2, a, c2, k2, rfl, s2, hz, -⟩ := agg_cons hz
  obtain ⟨u3, a, c3, k3, rfl, s3, hz, -⟩ := agg_cons hz
  obtain ⟨u4, a, c4, k4, rfl, s4, hz, -⟩ := agg_cons hz
  obtain ⟨u5, a, c5, k5, rfl, s5, hz, -⟩ := agg_cons hz
  obtain ⟨u6, a, c6, k6, rfl, s6, hz, -⟩ := agg_cons hz
  obtain ⟨u7, a, c7, k7, rfl, s7, hz, -⟩ := agg_cons hz
  obtain ⟨u8, a, c8, k8, rfl, s8, hz, -⟩ := agg_cons hz
  obtain ⟨rfl, -⟩ := agg_nil hz
  obtain ⟨y1, rfl, -⟩ := scal_int s1
  obtain ⟨y2, rfl, -⟩ := scal_int s2
  obtain ⟨y3, rfl, -⟩ := scal_bool s3
  obtain ⟨y4, rfl, -⟩ := scal_int s4
  obtain ⟨y5, rfl, -⟩ := scal_str s5
  obtain ⟨y6, rfl, -⟩ := scal_bool s6
  obtain ⟨y7, rfl, -⟩ := scal_int s7
  obtain ⟨y8, rfl, -⟩ := scal_str s8
  obtain ⟨v1, b1, e1, f1, rfl, g1, hh1, rfl⟩ := agg_cons h
  obtain ⟨v2, b2, e2, f2, rfl, g2, hh2, rfl⟩ := agg_cons hh1
  obtain ⟨v3, b3, e3, f3, rfl, g3, hh3, rfl⟩ := agg_cons hh2
  obtain ⟨v4, b4, e4, f4, rfl, g4, hh4, rfl⟩ := agg_cons hh3
  obtain ⟨v5, b5, e5, f5, rfl, g5, hh5, rfl⟩ := agg_cons hh4
  obtain ⟨v6, b6, e6, f6, rfl, g6, hh6, rfl⟩ := agg_cons hh5
  obtain ⟨v7, b7, e7, f7, rfl, g7, hh7, rfl⟩ := agg_cons hh6
  obtain ⟨v8, b8, e8, f8, rfl, g8, hh8, rfl⟩ := agg_cons hh7
  obtain ⟨rfl, rfl⟩ := agg_nil hh8
  obtain ⟨z1, rfl, rfl⟩ := scal_int g1
  obtain ⟨z2, rfl, rfl⟩ := scal_int g2
  obtain ⟨z3, rfl, rfl⟩ := scal_bool g3
  obtain ⟨z4, rfl, rfl⟩ := scal_int g4
  obtain ⟨z5, rfl, rfl⟩ := scal_str g5
  obtain ⟨z6, rfl, rfl⟩ := scal_bool g6
  obtain ⟨z7, rfl, rfl⟩ := scal_int g7
  obtain ⟨z8, rfl, rfl⟩ := scal_str g8
  obtain ⟨x1', rx, ex1, hx1, hx⟩ := rls_one hx
  obtain ⟨x2', rx, rfl, hx2, hx⟩ := rls_one hx
  obtain ⟨x3', rx, rfl, hx3, hx⟩ := rls_one hx
  obtain ⟨x4', rx, rfl, hx4, hx⟩ := rls_one hx
  obtain ⟨x5', rx, rfl, hx5, hx⟩ := rls_one hx
  obtain ⟨x6', rx, rfl, hx6, hx⟩ := rls_one hx
  obtain ⟨x7', rx, rfl, hx7, hx⟩ := rls_one hx
  obtain ⟨x8', rx, rfl, hx8, hx⟩ := rls_one hx
  obtain rfl := rls_nil hx
  obtain ⟨y1', ry, ey1, hy1, hy⟩ := rls_one hy
  obtain ⟨y2', ry, rfl, hy2, hy⟩ := rls_one hy
  obtain ⟨y3', ry, rfl, hy3, hy⟩ := rls_one hy
  obtain ⟨y4', ry, rfl, hy4, hy⟩ := rls_one hy
  obtain ⟨y5', ry, rfl, hy5, hy⟩ := rls_one hy
  obtain ⟨y6', ry, rfl, hy6, hy⟩ := rls_one hy
  obtain ⟨y7', ry, rfl, hy7, hy⟩ := rls_one hy
  obtain ⟨y8', ry, rfl, hy8, hy⟩ := rls_one hy
  obtain rfl := rls_nil hy
  obtain rfl := of_list ex1
  obtain rfl := of_list ey1
  obtain rfl := int_inv hx1
  obtain rfl := int_inv hy1
  obtain rfl := int_inv hx2
  obtain rfl := int_inv hy2
  obtain rfl := bool_inv hx3
  obtain rfl := bool_inv hy3
  obtain rfl := int_inv hx4
  obtain rfl := int_inv hy4
  obtain ⟨s5', rfl, rfl⟩ := str_inv hx5
  obtain ⟨t5', rfl, rfl⟩ := str_inv hy5
  obtain rfl := bool_inv hx6
  obtain rfl := bool_inv hy6
  obtain rfl := int_inv hx7
  obtain rfl := int_inv hy7
  obtain ⟨s8', rfl, rfl⟩ := str_inv hx8
  obtain ⟨t8', rfl, rfl⟩ := str_inv hy8
  rw [← info_str, ← info_str]
  have := eq_zone 9997 y1 y2 y3 y4 s5' y6 y7 s8' z1 z2 z3 z4 t5' z6 z7 t8' w
  rw [show (Op.equal 232 (.agg [Value.int .i64 y1, .int .i64 y2, .bool y3, .int .i64 y4, .string s5', .bool y6, .int .i64 y7, .string s8'].toArray) (.agg [Value.int .i64 z1, .int .i64 z2, .bool z3, .int .i64 z4, .string t5', .bool z6, .int .i64 z7, .string t8'].toArray)).run Tryz.prog w = _ from this]
  simp [Bool.and_assoc]⟩
theorem fields_wide : (Tryz.prog.fieldsOf 377).toList.map (fun f => (f.name == "_", f.type, f.offset)) = [(false, 2, 0), (false, 169, 1)] := by kernel_rfl
theorem und_wide : Tryz.prog.underlying 377 = some (.struct (Tryz.prog.fieldsOf 377)) := by kernel_rfl
theorem stood_wide : Tryz.prog.stoodInHeld 377 = false := by kernel_rfl
theorem pk_u64 : Tryz.prog.plainKey 169 = true := by kernel_rfl
theorem zero_wide : (types.get 377).map (·.zero) = some [.int .i64 0, .int .u64 0] := by kernel_rfl
theorem eq_wide (d : Nat) (m n p q : Int) (w : World) : (Op.equalIn (d + 2) 377 (.agg #[.int .i64 m, .int .u64 p]) (.agg #[.int .i64 n, .int .u64 q])).run Tryz.prog w = .ok ((m == n) && ((p == q) && true)) w := by
  rw [run_equalIn_agg w (d + 1) _ _ _ und_wide stood_wide]
  obtain ⟨f, g, e, e1, e2⟩ := map2 fields_wide
  rw [e]
  obtain ⟨n1, t1, o1⟩ : (f.name == "_") = false ∧ f.type = 2 ∧ f.offset = 0 := by simpa using e1
  obtain ⟨n2, t2, o2⟩ : (g.name == "_") = false ∧ g.type = 169 ∧ g.offset = 1 := by simpa using e2
  refine fields_cons n1 (a := .int .i64 m) (b := .int .i64 n) (by rw [t1, o1]; exact run_part_plain w pk_int rfl) (by rw [t1, o1]; exact run_part_plain w pk_int rfl) (by rw [t1]; exact run_equalIn_int w d _ _ _ m n Tryz.underlying2) ?_
  refine fields_cons n2 (a := .int .u64 p) (b := .int .u64 q) (by rw [t2, o2]; exact run_part_plain w pk_u64 rfl) (by rw [t2, o2]; exact run_part_plain w pk_u64 rfl) (by rw [t2]; exact run_equalIn_int w d _ _ _ p q Tryz.underlying169) ?_
  rfl
theorem eqOk_wide : EqOk Tryz.prog 377 [.int .i64 0, .int .u64 0] := ⟨by
  intro ρ a b x y q r w hx hy hz h
  obtain ⟨u1, a, c1, k1, rfl, s1, hz, -⟩ := agg_cons hz
  obtain ⟨u2, a, c2, k2, rfl, s2, hz, -⟩ := agg_cons hz
  obtain ⟨rfl, -⟩ := agg_nil hz
  obtain ⟨y1, rfl, -⟩ := scal_int s1
  obtain ⟨y2, rfl, -⟩ := scal_int s2
  obtain ⟨v1, b1, e1, f1, rfl, g1, hh1, rfl⟩ := agg_cons h
  obtain ⟨v2, b2, e2, f2, rfl, g2, hh2, rfl⟩ := agg_cons hh1
  obtain ⟨rfl, rfl⟩ := agg_nil hh2
  obtain ⟨z1, rfl, rfl⟩ := scal_int g1
  obtain ⟨z2, rfl, rfl⟩ := scal_int g2
  obtain ⟨x1', rx, ex1, hx1, hx⟩ := rls_one hx
  obtain ⟨x2', rx, rfl, hx2, hx⟩ := rls_one hx
  obtain rfl := rls_nil hx
  obtain ⟨y1', ry, ey1, hy1, hy⟩ := rls_one hy
  obtain ⟨y2', ry, rfl, hy2, hy⟩ := rls_one hy
  obtain rfl := rls_nil hy
  obtain rfl := of_list ex1
  obtain rfl := of_list ey1
  obtain rfl := int_inv hx1
  obtain rfl := int_inv hy1
  obtain rfl := int_inv hx2
  obtain rfl := int_inv hy2
  exact eq_wide 9998 _ _ _ _ w⟩
theorem fields_entry : (Tryz.prog.fieldsOf 85).toList.map (fun f => (f.name == "_", f.type, f.offset)) = [(false, 3, 0), (false, 3, 1), (false, 3, 2), (false, 83, 3), (false, 83, 7), (false, 3, 11)] := by kernel_rfl
theorem und_entry : Tryz.prog.underlying 85 = some (.struct (Tryz.prog.fieldsOf 85)) := by kernel_rfl
theorem stood_entry : Tryz.prog.stoodInHeld 85 = false := by kernel_rfl
theorem zero_entry : (types.get 85).map (·.zero) = some [.int .i64 0, .int .i64 0, .int .i64 0, .bool false, .int .i64 0, .str [], .int .i64 0, .bool false, .int .i64 0, .str [], .int .i64 0, .int .i64 0] := by kernel_rfl
theorem map6 {α β : Type} {g : α → β} {l : List α} {x1 x2 x3 x4 x5 x6 : β} (h : l.map g = [x1, x2, x3, x4, x5, x6]) : ∃ a b c d e f, l = [a, b, c, d, e, f] ∧ g a = x1 ∧ g b = x2 ∧ g c = x3 ∧ g d = x4 ∧ g e = x5 ∧ g f = x6 := by
  match l, h with
  | [a, b, c, d, e, f], h => simp at h; exact ⟨a, b, c, d, e, f, rfl, h⟩
theorem part_lo (x1 : Int) (x2 : Int) (x3 : Int) (x4 : Bool) (x5 : Int) (x6 : ByteArray) (x7 : Int) (x8 : Bool) (x9 : Int) (x10 : ByteArray) (x11 : Int) (x12 : Int) (w : World) : (Go.part 83 #[.int .i64 x1, .int .i64 x2, .int .i64 x3, .bool x4, .int .i64 x5, .string x6, .int .i64 x7, .bool x8, .int .i64 x9, .string x10, .int .i64 x11, .int .i64 x12] 3).run Tryz.prog w = .ok (.agg #[.bool x4, .int .i64 x5, .string x6, .int .i64 x7]) w := by kernel_rfl
theorem part_hi (x1 : Int) (x2 : Int) (x3 : Int) (x4 : Bool) (x5 : Int) (x6 : ByteArray) (x7 : Int) (x8 : Bool) (x9 : Int) (x10 : ByteArray) (x11 : Int) (x12 : Int) (w : World) : (Go.part 83 #[.int .i64 x1, .int .i64 x2, .int .i64 x3, .bool x4, .int .i64 x5, .string x6, .int .i64 x7, .bool x8, .int .i64 x9, .string x10, .int .i64 x11, .int .i64 x12] 7).run Tryz.prog w = .ok (.agg #[.bool x8, .int .i64 x9, .string x10, .int .i64 x11]) w := by kernel_rfl
theorem eq_entry (d : Nat) (x1 : Int) (x2 : Int) (x3 : Int) (x4 : Bool) (x5 : Int) (x6 : ByteArray) (x7 : Int) (x8 : Bool) (x9 : Int) (x10 : ByteArray) (x11 : Int) (x12 : Int) (y1 : Int) (y2 : Int) (y3 : Int) (y4 : Bool) (y5 : Int) (y6 : ByteArray) (y7 : Int) (y8 : Bool) (y9 : Int) (y10 : ByteArray) (y11 : Int) (y12 : Int) (w : World) : (Op.equalIn (d + 4) 85 (.agg #[.int .i64 x1, .int .i64 x2, .int .i64 x3, .bool x4, .int .i64 x5, .string x6, .int .i64 x7, .bool x8, .int .i64 x9, .string x10, .int .i64 x11, .int .i64 x12]) (.agg #[.int .i64 y1, .int .i64 y2, .int .i64 y3, .bool y4, .int .i64 y5, .string y6, .int .i64 y7, .bool y8, .int .i64 y9, .string y10, .int .i64 y11, .int .i64 y12])).run Tryz.prog w = .ok ((x1 == y1) && ((x2 == y2) && ((x3 == y3) && (((((x4 == y4)) && (((x5 == y5)) && (((x6.toList == y6.toList)) && true))) && (((x7 == y7)) && true)) && (((((x8 == y8)) && (((x9 == y9)) && (((x10.toList == y10.toList)) && true))) && (((x11 == y11)) && true)) && ((x12 == y12) && true)))))) w := by
  rw [run_equalIn_agg w (d + 3) _ _ _ und_entry stood_entry]
  obtain ⟨f1, f2, f3, f4, f5, f6, e, e1, e2, e3, e4, e5, e6⟩ := map6 fields_entry
  rw [e]
  obtain ⟨n1, t1, o1⟩ : (f1.name == "_") = false ∧ f1.type = 3 ∧ f1.offset = 0 := by simpa using e1
  obtain ⟨n2, t2, o2⟩ : (f2.name == "_") = false ∧ f2.type = 3 ∧ f2.offset = 1 := by simpa using e2
  obtain ⟨n3, t3, o3⟩ : (f3.name == "_") = false ∧ f3.type = 3 ∧ f3.offset = 2 := by simpa using e3
  obtain ⟨n4, t4, o4⟩ : (f4.name == "_") = false ∧ f4.type = 83 ∧ f4.offset = 3 := by simpa using e4
  obtain ⟨n5, t5, o5⟩ : (f5.name == "_") = false ∧ f5.type = 83 ∧ f5.offset = 7 := by simpa using e5
  obtain ⟨n6, t6, o6⟩ : (f6.name == "_") = false ∧ f6.type = 3 ∧ f6.offset = 11 := by simpa using e6
  refine fields_cons n1 (a := .int .i64 x1) (b := .int .i64 y1) (by rw [t1, o1]; exact run_part_plain w pk_int0 rfl) (by rw [t1, o1]; exact run_part_plain w pk_int0 rfl) (by rw [t1]; exact run_equalIn_int w (d + 2) _ _ _ x1 y1 Tryz.underlying3) ?_
  refine fields_cons n2 (a := .int .i64 x2) (b := .int .i64 y2) (by rw [t2, o2]; exact run_part_plain w pk_int0 rfl) (by rw [t2, o2]; exact run_part_plain w pk_int0 rfl) (by rw [t2]; exact run_equalIn_int w (d + 2) _ _ _ x2 y2 Tryz.underlying3) ?_
  refine fields_cons n3 (a := .int .i64 x3) (b := .int .i64 y3) (by rw [t3, o3]; exact run_part_plain w pk_int0 rfl) (by rw [t3, o3]; exact run_part_plain w pk_int0 rfl) (by rw [t3]; exact run_equalIn_int w (d + 2) _ _ _ x3 y3 Tryz.underlying3) ?_
  refine fields_cons n4 (by rw [t4, o4]; exact part_lo x1 x2 x3 x4 x5 x6 x7 x8 x9 x10 x11 x12 w) (by rw [t4, o4]; exact part_lo y1 y2 y3 y4 y5 y6 y7 y8 y9 y10 y11 y12 w) (by rw [t4]; exact eq_rank d x4 y4 x5 y5 x6 y6 x7 y7 w) ?_
  refine fields_cons n5 (by rw [t5, o5]; exact part_hi x1 x2 x3 x4 x5 x6 x7 x8 x9 x10 x11 x12 w) (by rw [t5, o5]; exact part_hi y1 y2 y3 y4 y5 y6 y7 y8 y9 y10 y11 y12 w) (by rw [t5]; exact eq_rank d x8 y8 x9 y9 x10 y10 x11 y11 w) ?_
  refine fields_cons n6 (a := .int .i64 x12) (b := .int .i64 y12) (by rw [t6, o6]; exact run_part_plain w pk_int0 rfl) (by rw [t6, o6]; exact run_part_plain w pk_int0 rfl) (by rw [t6]; exact run_equalIn_int w (d + 2) _ _ _ x12 y12 Tryz.underlying3) ?_
  rfl
theorem eqOk_entry : EqOk Tryz.prog 85 [.int .i64 0, .int .i64 0, .int .i64 0, .bool false, .int .i64 0, .str [], .int .i64 0, .bool false, .int .i64 0, .str [], .int .i64 0, .int .i64 0] := ⟨by
  intro ρ a b x y q r w hx hy hz h
  obtain ⟨u1, a, c1, k1, rfl, s1, hz, -⟩ := agg_cons hz
  obtain ⟨u2, a, c2, k2, rfl, s2, hz, -⟩ := agg_cons hz
  obtain ⟨u3, a, c3, k3, rfl, s3, hz, -⟩ := agg_cons hz
  obtain ⟨u4, a, c4, k4, rfl, s4, hz, -⟩ := agg_cons hz
  obtain ⟨u5, a, c5, k5, rfl, s5, hz, -⟩ := agg_cons hz
  obtain ⟨u6, a, c6, k6, rfl, s6, hz, -⟩ := agg_cons hz
  obtain ⟨u7, a, c7, k7, rfl, s7, hz, -⟩ := agg_cons hz
  obtain ⟨u8, a, c8, k8, rfl, s8, hz, -⟩ := agg_cons hz
  obtain ⟨u9, a, c9, k9, rfl, s9, hz, -⟩ := agg_cons hz
  obtain ⟨u10, a, c10, k10, rfl, s10, hz, -⟩ := agg_cons hz
  obtain ⟨u11, a, c11, k11, rfl, s11, hz, -⟩ := agg_cons hz
  obtain ⟨u12, a, c12, k12, rfl, s12, hz, -⟩ := agg_cons hz
  obtain ⟨rfl, -⟩ := agg_nil hz
  obtain ⟨y1, rfl, -⟩ := scal_int s1
  obtain ⟨y2, rfl, -⟩ := scal_int s2
  obtain ⟨y3, rfl, -⟩ := scal_int s3
  obtain ⟨y4, rfl, -⟩ := scal_bool s4
  obtain ⟨y5, rfl, -⟩ := scal_int s5
  obtain ⟨y6, rfl, -⟩ := scal_str s6
  obtain ⟨y7, rfl, -⟩ := scal_int s7
  obtain ⟨y8, rfl, -⟩ := scal_bool s8
  obtain ⟨y9, rfl, -⟩ := scal_int s9
  obtain ⟨y10, rfl, -⟩ := scal_str s10
  obtain ⟨y11, rfl, -⟩ := scal_int s11
  obtain ⟨y12, rfl, -⟩ := scal_int s12
  obtain ⟨v1, b1, e1, f1, rfl, g1, hh1, rfl⟩ := agg_cons h
  obtain ⟨v2, b2, e2, f2, rfl, g2, hh2, rfl⟩ := agg_cons hh1
  obtain ⟨v3, b3, e3, f3, rfl, g3, hh3, rfl⟩ := agg_cons hh2
  obtain ⟨v4, b4, e4, f4, rfl, g4, hh4, rfl⟩ := agg_cons hh3
  obtain ⟨v5, b5, e5, f5, rfl, g5, hh5, rfl⟩ := agg_cons hh4
  obtain ⟨v6, b6, e6, f6, rfl, g6, hh6, rfl⟩ := agg_cons hh5
  obtain ⟨v7, b7, e7, f7, rfl, g7, hh7, rfl⟩ := agg_cons hh6
  obtain ⟨v8, b8, e8, f8, rfl, g8, hh8, rfl⟩ := agg_cons hh7
  obtain ⟨v9, b9, e9, f9, rfl, g9, hh9, rfl⟩ := agg_cons hh8
  obtain ⟨v10, b10, e10, f10, rfl, g10, hh10, rfl⟩ := agg_cons hh9
  obtain ⟨v11, b11, e11, f11, rfl, g11, hh11, rfl⟩ := agg_cons hh10
  obtain ⟨v12, b12, e12, f12, rfl, g12, hh12, rfl⟩ := agg_cons hh11
  obtain ⟨rfl, rfl⟩ := agg_nil hh12
  obtain ⟨z1, rfl, rfl⟩ := scal_int g1
  obtain ⟨z2, rfl, rfl⟩ := scal_int g2
  obtain ⟨z3, rfl, rfl⟩ := scal_int g3
  obtain ⟨z4, rfl, rfl⟩ := scal_bool g4
  obtain ⟨z5, rfl, rfl⟩ := scal_int g5
  obtain ⟨z6, rfl, rfl⟩ := scal_str g6
  obtain ⟨z7, rfl, rfl⟩ := scal_int g7
  obtain ⟨z8, rfl, rfl⟩ := scal_bool g8
  obtain ⟨z9, rfl, rfl⟩ := scal_int g9
  obtain ⟨z10, rfl, rfl⟩ := scal_str g10
  obtain ⟨z11, rfl, rfl⟩ := scal_int g11
  obtain ⟨z12, rfl, rfl⟩ := scal_int g12
  obtain ⟨x1', rx, ex1, hx1, hx⟩ := rls_one hx
  obtain ⟨x2', rx, rfl, hx2, hx⟩ := rls_one hx
  obtain ⟨x3', rx, rfl, hx3, hx⟩ := rls_one hx
  obtain ⟨x4', rx, rfl, hx4, hx⟩ := rls_one hx
  obtain ⟨x5', rx, rfl, hx5, hx⟩ := rls_one hx
  obtain ⟨x6', rx, rfl, hx6, hx⟩ := rls_one hx
  obtain ⟨x7', rx, rfl, hx7, hx⟩ := rls_one hx
  obtain ⟨x8', rx, rfl, hx8, hx⟩ := rls_one hx
  obtain ⟨x9', rx, rfl, hx9, hx⟩ := rls_one hx
  obtain ⟨x10', rx, rfl, hx10, hx⟩ := rls_one hx
  obtain ⟨x11', rx, rfl, hx11, hx⟩ := rls_one hx
  obtain ⟨x12', rx, rfl, hx12, hx⟩ := rls_one hx
  obtain rfl := rls_nil hx
  obtain ⟨y1', ry, ey1, hy1, hy⟩ := rls_one hy
  obtain ⟨y2', ry, rfl, hy2, hy⟩ := rls_one hy
  obtain ⟨y3', ry, rfl, hy3, hy⟩ := rls_one hy
  obtain ⟨y4', ry, rfl, hy4, hy⟩ := rls_one hy
  obtain ⟨y5', ry, rfl, hy5, hy⟩ := rls_one hy
  obtain ⟨y6', ry, rfl, hy6, hy⟩ := rls_one hy
  obtain ⟨y7', ry, rfl, hy7, hy⟩ := rls_one hy
  obtain ⟨y8', ry, rfl, hy8, hy⟩ := rls_one hy
  obtain ⟨y9', ry, rfl, hy9, hy⟩ := rls_one hy
  obtain ⟨y10', ry, rfl, hy10, hy⟩ := rls_one hy
  obtain ⟨y11', ry, rfl, hy11, hy⟩ := rls_one hy
  obtain ⟨y12', ry, rfl, hy12, hy⟩ := rls_one hy
  obtain rfl := rls_nil hy
  obtain rfl := of_list ex1
  obtain rfl := of_list ey1
  obtain rfl := int_inv hx1
  obtain rfl := int_inv hy1
  obtain rfl := int_inv hx2
  obtain rfl := int_inv hy2
  obtain rfl := int_inv hx3
  obtain rfl := int_inv hy3
  obtain rfl := bool_inv hx4
  obtain rfl := bool_inv hy4
  obtain rfl := int_inv hx5
  obtain rfl := int_inv hy5
  obtain ⟨s6', rfl, rfl⟩ := str_inv hx6
  obtain ⟨t6', rfl, rfl⟩ := str_inv hy6
  obtain rfl := int_inv hx7
  obtain rfl := int_inv hy7
  obtain rfl := bool_inv hx8
  obtain rfl := bool_inv hy8
  obtain rfl := int_inv hx9
  obtain rfl := int_inv hy9
  obtain ⟨s10', rfl, rfl⟩ := str_inv hx10
  obtain ⟨t10', rfl, rfl⟩ := str_inv hy10
  obtain rfl := int_inv hx11
  obtain rfl := int_inv hy11
  obtain rfl := int_inv hx12
  obtain rfl := int_inv hy12
  rw [← info_str, ← info_str]
  have := eq_entry 9996 y1 y2 y3 y4 y5 s6' y7 y8 y9 s10' y11 y12 z1 z2 z3 z4 z5 t6' z7 z8 z9 t10' z11 z12 w
  rw [show (Op.equal 85 (.agg [Value.int .i64 y1, .int .i64 y2, .int .i64 y3, .bool y4, .int .i64 y5, .string s6', .int .i64 y7, .bool y8, .int .i64 y9, .string s10', .int .i64 y11, .int .i64 y12].toArray) (.agg [Value.int .i64 z1, .int .i64 z2, .int .i64 z3, .bool z4, .int .i64 z5, .string t6', .int .i64 z7, .bool z8, .int .i64 z9, .string t10', .int .i64 z11, .int .i64 z12].toArray)).run Tryz.prog w = _ from this]
  simp [Bool.and_assoc]⟩
end Ev
end Go.Proofs.YtodegmphcjgipaaGreatDoor
