/-
  The tables of types and of functions are the program's.
-/
import Derived.Test.YtodegmphcjgipaaGreatDoorTTab
import Derived.Test.YtodegmphcjgipaaGreatDoorTC
import Derived.KernelRfl
namespace Go.Proofs.YtodegmphcjgipaaGreatDoor
namespace Ev
open Go Go.RowKit

/-- a value without an address, and what it stands for -/
def relC : V → Value → Bool
  | .bool b, .bool c => b == c
  | .int k n, .int j m => keqB k j && n == m
  | .str l, .string s => l.isEmpty && s.data.toList.isEmpty
  | .nilp, .pointer none => true
  | .nils, .slice none n c => n == 0 && c == 0
  | .nilf, .nilFunc => true
  | .nili, .nilIface => true
  | _, _ => false
where keqB (k j : IntKind) : Bool := match k, j with
  | .i8, .i8 | .i16, .i16 | .i32, .i32 | .i64, .i64 | .u8, .u8 | .u16, .u16 | .u32, .u32 | .u64, .u64 => true
  | _, _ => false
def relCs : List V → List Value → Bool
  | [], [] => true
  | v :: l, x :: m => relC v x && relCs l m
  | _, _ => false
theorem relC_t {v : V} {x : Value} (h : relC v x = true) (ρ : Map) : Rl ρ v x := by
  unfold relC at h
  split at h <;> first
    | (cases h; done)
    | exact .nilp
    | exact .nilf
    | exact .nili
    | (have e := eq_of_beq h; subst e; exact .bool _)
    | (simp only [Bool.and_eq_true] at h
       obtain ⟨h1, h2⟩ := h
       first
        | (have e := eq_of_beq h1; have e' := eq_of_beq h2; subst e e'; exact .nils)
        | (have e := eq_of_beq h2
           subst e
           rename_i k n j
           cases k <;> cases j <;> first | exact .int _ _ | (cases h1; done))
        | (rename_i l s
           have e : l = [] := by simpa using h1
           have e' : s.data.toList = [] := List.isEmpty_iff.1 h2
           subst e
           exact str_mk (by rw [e']; rfl)))
theorem relCs_t : ∀ {l : List V} {m : List Value}, relCs l m = true → ∀ ρ, Rls ρ l m
  | [], [], _, ρ => .nil
  | [], _ :: _, h, ρ => by cases h
  | _ :: _, [], h, ρ => by cases h
  | v :: l, x :: m, h, ρ => by
    simp only [relCs, Bool.and_eq_true] at h
    exact .cons (relC_t h.1 ρ) (relCs_t h.2 ρ)
def tdChk : TypeDesc → TD → Bool
  | .bool, .bool => true
  | .int k, .int j => relC.keqB k j
  | .string, .str => true
  | .slice e, .slice f => e == f
  | .array n e, .arr m f => n == m && e == f
  | .struct Fs, .struct fs => (Fs.toList.map fun f => (f.offset, f.type)) == fs
  | .pointer e, .ptr f => e == f
  | .unsafePointer, .uptr => true
  | .interface _, .iface => true
  | .func _ _ _, .func => true
  | .int _, .other => false
  | _, .other => true
  | _, _ => false
theorem tdChk_t {d : TypeDesc} {x : TD} (h : tdChk d x = true) : TDOk d x := by
  cases x with
  | bool => cases d <;> first | rfl | (cases h; done)
  | int j =>
    cases d <;> first
      | (rename_i k; cases k <;> cases j <;> first | rfl | (cases h; done))
      | (cases h; done)
  | str => cases d <;> first | rfl | (cases h; done)
  | slice f => cases d <;> first | (have e := eq_of_beq (show (_ == f) = true from h); subst e; rfl) | (cases h; done)
  | arr m f =>
    cases d <;> first
      | (simp only [tdChk, Bool.and_eq_true] at h
         have e := eq_of_beq h.1; have e' := eq_of_beq h.2; subst e e'; rfl)
      | (cases h; done)
  | struct fs =>
    cases d <;> first
      | exact ⟨_, rfl, eq_of_beq h⟩
      | (cases h; done)
  | ptr f => cases d <;> first | (have e := eq_of_beq (show (_ == f) = true from h); subst e; rfl) | (cases h; done)
  | uptr => cases d <;> first | rfl | (cases h; done)
  | iface => cases d <;> first | exact ⟨_, rfl⟩ | (cases h; done)
  | func => cases d <;> first | exact ⟨_, _, _, rfl⟩ | (cases h; done)
  | other => intro k e; subst e; cases h
def isAggD : TypeDesc → Bool
  | .struct _ | .array _ _ => true
  | _ => false
def tyChk (P : Program) (t : TypeId) (ti : TI) : Bool :=
  (match P.info? t with
    | none => false
    | some i => i.size == ti.size && (i.bytes == ti.bytes && (match i.zero with
      | none => false
      | some z => relCs ti.zero z.cells.toList))) &&
  (ti.zero.length == ti.size && (match P.underlying t with
    | none => false
    | some d => tdChk d ti.d && ti.agg == isAggD d))
theorem tyChk_t {P : Program} {t : TypeId} {ti : TI} (h : tyChk P t ti = true) : TyOk P t ti := by
  simp only [tyChk, Bool.and_eq_true] at h
  obtain ⟨h1, h2, h3⟩ := h
  refine ⟨?_, eq_of_beq h2, ?_⟩
  · split at h1
    · cases h1
    · rename_i i hi
      simp only [Bool.and_eq_true] at h1
      obtain ⟨h4, h5, h6⟩ := h1
      split at h6
      · cases h6
      · rename_i z hz
        exact ⟨i, hi, eq_of_beq h4, eq_of_beq h5, z, hz, relCs_t h6⟩
  · split at h3
    · cases h3
    · rename_i d hd
      simp only [Bool.and_eq_true] at h3
      refine ⟨d, hd, tdChk_t h3.1, ?_⟩
      rw [eq_of_beq h3.2]
      cases d <;> rfl

set_option maxRecDepth 100000 in
theorem types_all : allT types (tyChk Tryz.prog) = true := by kernel_rfl
theorem types_ok : ∀ t ti, types.get t = some ti → TyOk Tryz.prog t ti := fun t ti e => tyChk_t (allT_t types _ types_all t ti e)
end Ev
end Go.Proofs.YtodegmphcjgipaaGreatDoor
