/-
  Plain law of values, ranks and ranges: their order, without any program.
-/
import Derived.Test.YtgacjpkgpegcdaaBase
namespace Go.Proofs.Ytgacjpkgpegcdaa

structure Vl where
  null : Bool
  n : Int
  s : ByteArray
structure Rk where
  key : Vl
  seq : Int
structure Rg where
  lo : Rk
  hi : Rk

/-- -1, 0 or 1. -/
def ord3 (lt eq : Bool) : Int := if lt then -1 else if eq then 0 else 1
def cmpI (a b : Int) : Int := ord3 (decide (a < b)) (a == b)
def cmpS (a b : ByteArray) : Int := ord3 (Op.bytesLess a.toList b.toList) (a.toList == b.toList)
def cmpV (typ : Int) (a b : Vl) : Int :=
  if a.null && b.null then 0 else if a.null then -1 else if b.null then 1 else if typ == 3 then cmpS a.s b.s else cmpI a.n b.n
def cmpR (typ : Int) (a b : Rk) : Int := if cmpV typ a.key b.key == 0 then cmpI a.seq b.seq else cmpV typ a.key b.key

/-! ### The bytes' order -/
theorem bl_irrefl : ∀ a : List UInt8, Op.bytesLess a a = false
  | [] => rfl
  | a :: l => by simp [Op.bytesLess, bl_irrefl l]
theorem bl_asymm : ∀ a b : List UInt8, Op.bytesLess a b = true → Op.bytesLess b a = false
  | [], [], h => by simp [Op.bytesLess] at h
  | [], _ :: _, _ => by simp [Op.bytesLess]
  | _ :: _, [], h => by simp [Op.bytesLess] at h
  | a :: x, b :: y, h => by
    simp only [Op.bytesLess, Bool.or_eq_true, decide_eq_true_eq, Bool.and_eq_true, beq_iff_eq, Bool.or_eq_false_iff, decide_eq_false_iff_not, Bool.and_eq_false_iff, beq_eq_false_iff_ne, ne_eq] at h ⊢
    rcases h with h | ⟨rfl, h⟩
    · exact ⟨fun h' => by simp only [UInt8.lt_iff_toNat_lt] at h h'; omega, .inl fun e => by subst e; exact absurd h (by simp)⟩
    · exact ⟨by simp, .inr (bl_asymm x y h)⟩
theorem bl_tri : ∀ a b : List UInt8, Op.bytesLess a b = true ∨ a = b ∨ Op.bytesLess b a = true
  | [], [] => .inr (.inl rfl)
  | [], _ :: _ => .inl rfl
  | _ :: _, [] => .inr (.inr rfl)
  | a :: x, b :: y => by
    simp only [Op.bytesLess, Bool.or_eq_true, decide_eq_true_eq, Bool.and_eq_true, beq_iff_eq, List.cons.injEq]
    rcases Nat.lt_trichotomy a.toNat b.toNat with h | h | h
    · exact .inl (.inl (UInt8.lt_iff_toNat_lt.2 h))
    · have e : a = b := UInt8.toNat_inj.1 h
      subst e
      rcases bl_tri x y with h | h | h
      · exact .inl (.inr ⟨rfl, h⟩)
      · exact .inr (.inl ⟨rfl, h⟩)
      · exact .inr (.inr (.inr ⟨rfl, h⟩))
    · exact .inr (.inr (.inl (UInt8.lt_iff_toNat_lt.2 h)))
theorem bl_trans : ∀ a b c : List UInt8, Op.bytesLess a b = true → Op.bytesLess b c = true → Op.bytesLess a c = true
  | _, [], _, h, _ => by simp [Op.bytesLess] at h
  | _, _ :: _, [], _, h => by simp [Op.bytesLess] at h
  | [], _ :: _, _ :: _, _, _ => by simp [Op.bytesLess]
  | a :: x, b :: y, c :: z, h1, h2 => by
    simp only [Op.bytesLess, Bool.or_eq_true, decide_eq_true_eq, Bool.and_eq_true, beq_iff_eq] at h1 h2 ⊢
    simp only [UInt8.lt_iff_toNat_lt] at h1 h2 ⊢
    rcases h1 with h1 | ⟨rfl, h1⟩ <;> rcases h2 with h2 | ⟨rfl, h2⟩
    · exact .inl (by omega)
    · exact .inl h1
    · exact .inl h2
    · exact .inr ⟨rfl, bl_trans x y z h1 h2⟩

/-- A three-way comparison of a total order. -/
structure Ord3 {α : Type} (c : α → α → Int) : Prop where
  refl : ∀ a, c a a = 0
  sub : ∀ a b, c a b = -1 ∨ c a b = 0 ∨ c a b = 1
  neg : ∀ a b, c b a = - c a b
  trans : ∀ a b d, c a b ≤ 0 → c b d ≤ 0 → c a d ≤ 0
theorem Ord3.total {α : Type} {c : α → α → Int} (h : Ord3 c) (a b : α) : c a b ≤ 0 ∨ c b a ≤ 0 := by have := h.neg a b; omega
theorem Ord3.lt_of {α : Type} {c : α → α → Int} (h : Ord3 c) {a b : α} (h1 : ¬ c a b ≤ 0) : c b a ≤ 0 := by have := h.neg a b; omega
theorem ord3I : Ord3 cmpI := by
  refine ⟨fun a => ?_, fun a b => ?_, fun a b => ?_, fun a b d => ?_⟩ <;> unfold cmpI ord3 <;> simp only [decide_eq_true_eq, beq_iff_eq]
  · simp
  · repeat' split
    all_goals simp
  · repeat' split
    all_goals omega
  · repeat' split
    all_goals omega
theorem cmpS_le {a b : ByteArray} : cmpS a b ≤ 0 ↔ (Op.bytesLess a.toList b.toList = true ∨ a.toList = b.toList) := by
  unfold cmpS ord3
  by_cases h1 : Op.bytesLess a.toList b.toList = true
  · simp [h1]
  · by_cases h2 : a.toList = b.toList
    · simp [h2, bl_irrefl]
    · simp [h1, h2]
theorem ord3S : Ord3 cmpS := by
  refine ⟨fun a => ?_, fun a b => ?_, fun a b => ?_, fun a b d h1 h2 => ?_⟩
  · simp [cmpS, ord3, bl_irrefl]
  · unfold cmpS ord3; repeat' split
    all_goals simp
  · unfold cmpS ord3
    rcases bl_tri a.toList b.toList with h | h | h
    · have h' := bl_asymm _ _ h
      have hne : ¬ b.toList = a.toList := fun e => by rw [e, bl_irrefl] at h; cases h
      simp [h, h', hne]
    · simp [h, bl_irrefl]
    · have h' := bl_asymm _ _ h
      have hne : ¬ a.toList = b.toList := fun e => by rw [e, bl_irrefl] at h; cases h
      simp [h, h', hne]
  · rw [cmpS_le] at *
    rcases h1 with h1 | h1 <;> rcases h2 with h2 | h2
    · exact .inl (bl_trans _ _ _ h1 h2)
    · exact .inl (h2 ▸ h1)
    · exact .inl (h1 ▸ h2)
    · exact .inr (h1.trans h2)
theorem ord3V (typ : Int) : Ord3 (cmpV typ) := by
  refine ⟨fun a => ?_, fun a b => ?_, fun a b => ?_, fun a b d => ?_⟩
  · unfold cmpV
    cases a.null <;> simp only [Bool.and_self, Bool.false_eq_true, if_false, if_true]
    split
    · exact ord3S.refl _
    · exact ord3I.refl _
  · unfold cmpV
    cases a.null <;> cases b.null <;> simp only [Bool.and_self, Bool.and_true, Bool.and_false, Bool.false_eq_true, if_false, if_true]
    · split
      · exact ord3S.sub _ _
      · exact ord3I.sub _ _
    all_goals simp
  · unfold cmpV
    cases a.null <;> cases b.null <;> simp only [Bool.and_self, Bool.and_true, Bool.and_false, Bool.false_eq_true, if_false, if_true]
    · split
      · exact ord3S.neg _ _
      · exact ord3I.neg _ _
    all_goals omega
  · unfold cmpV
    cases a.null <;> cases b.null <;> cases d.null <;> simp only [Bool.and_self, Bool.and_true, Bool.and_false, Bool.false_eq_true, if_false, if_true]
    · split
      · exact ord3S.trans _ _ _
      · exact ord3I.trans _ _ _
    all_goals omega
theorem ord3R (typ : Int) : Ord3 (cmpR typ) := by
  have V := ord3V typ
  refine ⟨fun a => ?_, fun a b => ?_, fun a b => ?_, fun a b d => ?_⟩ <;> unfold cmpR
  · rw [V.refl]; exact ord3I.refl _
  · split
    · exact ord3I.sub _ _
    · exact V.sub _ _
  · rw [V.neg a.key b.key]
    by_cases h : cmpV typ a.key b.key = 0
    · rw [h]; exact ord3I.neg _ _
    · rw [if_neg (by simp; omega), if_neg (by simp; exact h)]
  · have t1 := V.trans a.key b.key d.key
    have t2 := V.trans d.key b.key a.key
    have n1 := V.neg a.key b.key
    have n2 := V.neg b.key d.key
    have n3 := V.neg a.key d.key
    have t3 := V.trans d.key a.key b.key
    have t4 := V.trans b.key d.key a.key
    have s := ord3I.trans a.seq b.seq d.seq
    simp only [beq_iff_eq]
    repeat' split
    all_goals omega

end Go.Proofs.Ytgacjpkgpegcdaa
