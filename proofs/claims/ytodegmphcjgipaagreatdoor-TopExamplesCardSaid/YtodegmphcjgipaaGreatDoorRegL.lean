/-
  A region that draws its order, walked with a side condition on the world that also sees which operations have come up: an operation may be taken first as long as those that spoil what it reads wait for it.
-/
import Derived.Test.YtodegmphcjgipaaGreatDoorBase
import Derived.OrdersHeld
namespace Go.Proofs.YtodegmphcjgipaaGreatDoor
open Go

section
variable {P : Program} {ops : Array Oper} {Q : Exit → Act → World → Prop} {md : Region.Mode} {S : Array Bool → World → Prop}

def wpAnyL (P : Program) (md : Region.Mode) (ops : Array Oper) (Q : Exit → Act → World → Prop) (S : Array Bool → World → Prop) : Nat → Array Bool → Act → World → Prop
  | 0, listed, a, w => Region.ready md ops listed = [] ∧ Q .normal a w
  | fuel + 1, listed, a, w =>
    (Region.ready md ops listed = [] → Q .normal a w) ∧
    ∀ i ∈ Region.ready md ops listed, wpOp P ops Q i (fun a' w' => S (listed.setIfInBounds i true) w' ∧ wpAnyL P md ops Q S fuel (listed.setIfInBounds i true) a' w') a w

theorem wpAny_of_L : ∀ (fuel : Nat) (listed : Array Bool) (a : Act) (w : World), wpAnyL P md ops Q S fuel listed a w → wpAny P md ops Q fuel listed a w
  | 0, _, _, _, h => h
  | fuel + 1, _, _, _, h => ⟨h.1, fun i hi => wpOp_mono (fun a' w' h' => wpAny_of_L fuel _ a' w' h'.2) (h.2 i hi)⟩

theorem wpAnyL_first {C : Array Bool → Prop} {i : Nat} {oi : Oper} {v : Value} (hi : ops[i]? = some oi) (hsel : ∀ (j : Nat) (o : Oper) cs b, ops[j]? = some o → o.op ≠ .select cs b)
    (hQ : ∀ c a w, Q (.panic c) (a.put oi.dst v) w → Q (.panic c) a w)
    (hC : ∀ l j, C l → i ∈ Region.ready md ops l → j ∈ Region.ready md ops l → j ≠ i → C (l.setIfInBounds j true))
    (hSi : ∀ l w, C l → (S (l.setIfInBounds i true) w ↔ S l w)) :
    ∀ (fuel : Nat) (listed : Array Bool) (a : Act) (w : World), C listed →
      (∀ j oj, ops[j]? = some oj → j ≠ i → listed.getD j true = false → (∀ e ∈ oj.after, Region.binds md e = true → e.on ≠ i) → oi.apart ops oj = true) →
      i ∈ Region.ready md ops listed → YieldsIf P ops (fun w => ∃ l, C l ∧ S l w) oi v a → S listed w →
      wpAnyL P md ops Q S fuel (listed.setIfInBounds i true) (a.put oi.dst v) w → wpAnyL P md ops Q S (fuel + 1) listed a w := by
  intro fuel
  induction fuel with
  | zero =>
    intro listed a w hCl _ hr hy hS H
    refine ⟨fun h => (by rw [h] at hr; cases hr), fun j hj => ?_⟩
    by_cases hji : j = i
    · subst hji; exact hy.wpOp hi ⟨listed, hCl, hS⟩ ⟨(hSi _ _ hCl).2 hS, H⟩
    · have := ready_mono hj hji
      rw [H.1] at this
      cases this
  | succ fuel ih =>
    intro listed a w hCl hfree hr hy hS H
    refine ⟨fun h => (by rw [h] at hr; cases hr), fun j hj => ?_⟩
    by_cases hji : j = i
    · subst hji; exact hy.wpOp hi ⟨listed, hCl, hS⟩ ⟨(hSi _ _ hCl).2 hS, H⟩
    · have h1 := H.2 j (ready_mono hj hji)
      have hCj := hC listed j hCl hr hj hji
      obtain ⟨hjun, oj, hoj, hall⟩ := mem_ready.1 hj
      have hnot : ∀ e ∈ oj.after, Region.binds md e = true → e.on ≠ i := fun e he hb heq => by
        have h1 := hall e he hb
        have h0 := (mem_ready.1 hr).1
        rw [heq] at h1
        rcases Nat.lt_or_ge i listed.size with h' | h'
        · simp [h'] at h0 h1; rw [h0] at h1; cases h1
        · simp [Array.getElem?_eq_none h'] at h1
      have h2 := wpOp_putIf hoj (hfree j oj hoj hji hjun hnot) (fun cs b => hsel i oi cs b hi) (fun cs b => hsel j oj cs b hoj) hQ hy h1
      have hfree' : ∀ k ok, ops[k]? = some ok → k ≠ i → (listed.setIfInBounds j true).getD k true = false →
          (∀ e ∈ ok.after, Region.binds md e = true → e.on ≠ i) → oi.apart ops ok = true := fun k ok hk hki hun hno => by
        refine hfree k ok hk hki ?_ hno
        by_cases hjk : j = k
        · subst hjk; exact hjun
        · rw [getD_set_ne true hjk] at hun; exact hun
      refine wpOp_mono (fun a' w' h3 => ?_) h2
      have hS' : S (listed.setIfInBounds j true) w' := by
        refine (hSi _ _ hCj).1 ?_
        rw [Array.setIfInBounds_comm _ _ hji]
        exact h3.2.1
      refine ⟨hS', ih (listed.setIfInBounds j true) a' w' hCj hfree' (ready_mono hr (Ne.symm hji)) h3.1 hS' ?_⟩
      rw [Array.setIfInBounds_comm _ _ hji]
      exact h3.2.2

/-- Take number i first. -/
theorem wpAnyL_take (C : Array Bool → Prop) {i : Nat} {oi : Oper} {v : Value} {fuel : Nat} {listed : Array Bool} {a : Act} {w : World} (hi : ops[i]? = some oi)
    (hs : Region.noSelect ops = true) (hf : Region.free md ops listed i = true) (hr : (Region.ready md ops listed).contains i = true)
    (hQ : ∀ c a w, Q (.panic c) (a.put oi.dst v) w → Q (.panic c) a w)
    (hC : ∀ l j, C l → i ∈ Region.ready md ops l → j ∈ Region.ready md ops l → j ≠ i → C (l.setIfInBounds j true))
    (hSi : ∀ l w, C l → (S (l.setIfInBounds i true) w ↔ S l w)) (hCl : C listed)
    (hy : YieldsIf P ops (fun w => ∃ l, C l ∧ S l w) oi v a) (hS : S listed w)
    (h : wpAnyL P md ops Q S fuel (listed.setIfInBounds i true) (a.put oi.dst v) w) : wpAnyL P md ops Q S (fuel + 1) listed a w :=
  wpAnyL_first hi (Region.noSelect_spec hs) hQ hC hSi fuel listed a w hCl (Region.free_spec hi hf) (by simpa using hr) hy hS h
theorem wpAnyL_takeD (C : Array Bool → Prop) {i : Nat} {oi : Oper} {v : Value} {fuel : Nat} {listed : Array Bool} {a : Act} {w : World} (d : Option Tmp) (hi : ops[i]? = some oi) (hd : oi.dst = d)
    (hs : Region.noSelect ops = true) (hf : Region.free md ops listed i = true) (hr : (Region.ready md ops listed).contains i = true)
    (hQ : ∀ c a w, Q (.panic c) (a.put d v) w → Q (.panic c) a w)
    (hC : ∀ l j, C l → i ∈ Region.ready md ops l → j ∈ Region.ready md ops l → j ≠ i → C (l.setIfInBounds j true))
    (hSi : ∀ l w, C l → (S (l.setIfInBounds i true) w ↔ S l w)) (hCl : C listed)
    (hy : YieldsIf P ops (fun w => ∃ l, C l ∧ S l w) oi v a) (hS : S listed w)
    (h : wpAnyL P md ops Q S fuel (listed.setIfInBounds i true) (a.put d v) w) : wpAnyL P md ops Q S (fuel + 1) listed a w := by
  subst hd
  exact wpAnyL_take C hi hs hf hr hQ hC hSi hCl hy hS h
/-- One of two may come up. -/
theorem wpAnyL_two {i j : Nat} {fuel : Nat} {listed : Array Bool} {a : Act} {w : World} (hr : Region.ready md ops listed = [i, j])
    (h1 : wpOp P ops Q i (fun a' w' => S (listed.setIfInBounds i true) w' ∧ wpAnyL P md ops Q S fuel (listed.setIfInBounds i true) a' w') a w)
    (h2 : wpOp P ops Q j (fun a' w' => S (listed.setIfInBounds j true) w' ∧ wpAnyL P md ops Q S fuel (listed.setIfInBounds j true) a' w') a w) : wpAnyL P md ops Q S (fuel + 1) listed a w :=
  ⟨fun h0 => (by rw [hr] at h0; cases h0), fun k hk => by
    rw [hr] at hk
    rcases List.mem_cons.1 hk with rfl | hk
    · exact h1
    · rcases List.mem_cons.1 hk with rfl | hk
      · exact h2
      · cases hk⟩
/-- One alone may come up. -/
theorem wpAnyL_one {i : Nat} {fuel : Nat} {listed : Array Bool} {a : Act} {w : World} (hr : Region.ready md ops listed = [i])
    (h1 : wpOp P ops Q i (fun a' w' => S (listed.setIfInBounds i true) w' ∧ wpAnyL P md ops Q S fuel (listed.setIfInBounds i true) a' w') a w) : wpAnyL P md ops Q S (fuel + 1) listed a w :=
  ⟨fun h0 => (by rw [hr] at h0; cases h0), fun k hk => by
    rw [hr] at hk
    rcases List.mem_cons.1 hk with rfl | hk
    · exact h1
    · cases hk⟩
theorem wpAnyL_lst {rs : List Nat} {fuel : Nat} {listed : Array Bool} {a : Act} {w : World} (hr : Region.ready md ops listed = rs)
    (h : rs ≠ [] ∧ ∀ i ∈ rs, wpOp P ops Q i (fun a' w' => S (listed.setIfInBounds i true) w' ∧ wpAnyL P md ops Q S fuel (listed.setIfInBounds i true) a' w') a w) : wpAnyL P md ops Q S (fuel + 1) listed a w :=
  ⟨fun h0 => absurd (hr ▸ h0) h.1, hr ▸ h.2⟩
theorem wpAnyL_done {listed : Array Bool} {a : Act} {w : World} (hr : Region.ready md ops listed = []) (h : Q .normal a w) : ∀ fuel, wpAnyL P md ops Q S fuel listed a w
  | 0 => ⟨hr, h⟩
  | _ + 1 => ⟨fun _ => h, by rw [hr]; simp⟩
theorem wp_region_L (S : Array Bool → World → Prop) {id : Nat} {a : Act} {w : World} (hm : P.follows .mixedOrders = true)
    (h : wpAnyL P .any ops Q S ops.size (Array.replicate ops.size false) a w.drew) : (Code.region id ops true).wp P Q a w :=
  wp_region_any hm (wpAny_of_L _ _ _ _ h)
/-- One step, written out. -/
theorem wpOp_go {K : Act → World → Prop} {i : Nat} {o : Oper} {a : Act} {w : World} (ho : ops[i]? = some o)
    (h : ∀ K' : Act → World → Prop, (∀ a w, K a w → K' a w) → if Region.wanted o (yielded ops a.tmps) = true then Oper.wp P o a w K' Q else K' (a.put o.dst undef) w) : wpOp P ops Q i K a w :=
  wpOp_step ho (fun K' hK => h K' hK)
/-- What waits for i cannot come up before it. -/
theorem waits {i k : Nat} {ok : Oper} {l : Array Bool} (hk : ops[k]? = some ok) (he : ok.after.any (fun e => Region.binds md e && e.on == i) = true) (hi : i ∈ Region.ready md ops l) : k ∉ Region.ready md ops l := by
  intro hr
  obtain ⟨_, o, ho, hall⟩ := mem_ready.1 hr
  rw [hk] at ho
  cases ho
  have h0 := (mem_ready.1 hi).1
  simp only [Array.any_eq_true, Bool.and_eq_true, beq_iff_eq] at he
  obtain ⟨j, hj, hb, hon⟩ := he
  have h1 := hall _ (Array.getElem_mem hj) hb
  rw [hon] at h1
  rcases Nat.lt_or_ge i l.size with h' | h'
  · simp [h'] at h0 h1; rw [h0] at h1; cases h1
  · simp [Array.getElem?_eq_none h'] at h1
/-- The same, as one Bool. -/
def waitsB (md : Region.Mode) (ops : Array Oper) (i k : Nat) : Bool := match ops[k]? with
  | some ok => ok.after.any (fun e => Region.binds md e && e.on == i)
  | none => false
theorem waits_ne {i j k : Nat} {l : Array Bool} (hi : i ∈ Region.ready md ops l) (hj : j ∈ Region.ready md ops l) (h : waitsB md ops i k = true) : j ≠ k := by
  rintro rfl
  unfold waitsB at h
  cases hk : ops[j]? with
  | none => rw [hk] at h; cases h
  | some ok => rw [hk] at h; exact waits hk h hi hj
end

end Go.Proofs.YtodegmphcjgipaaGreatDoor
