/-
  law19.file: a file of valid records, and the ends of its beginnings.
-/
import Derived.Test.YtgacjpkgpegcdaaMRecM
namespace Go.Proofs.Ytgacjpkgpegcdaa
open Go.RowKit

def fileL (rs : List Rc) : List UInt8 := rs.flatMap encR
/-- The number of bytes of each beginning. -/
def endsL (rs : List Rc) : List Int := (List.range (rs.length + 1)).map fun (i : Nat) => ((fileL (rs.take i)).length : Int)
theorem endsL_nil : endsL [] = [0] := rfl
theorem endsL_snoc (rs : List Rc) (r : Rc) : endsL (rs ++ [r]) = endsL rs ++ [((fileL rs ++ encR r).length : Int)] := by
  unfold endsL
  rw [List.length_append, List.length_singleton, List.range_succ, List.map_append]
  congr 1
  · apply List.map_congr_left
    intro i hi
    rw [List.mem_range] at hi
    rw [List.take_append_of_le_length (by omega)]
  · simp only [List.map_cons, List.map_nil]
    rw [List.take_of_length_le (by simp)]
    unfold fileL
    rw [List.flatMap_append]
    simp
theorem endsL_len (rs : List Rc) : (endsL rs).length = rs.length + 1 := by simp [endsL]
theorem fileL_snoc (rs : List Rc) (r : Rc) : fileL (rs ++ [r]) = fileL rs ++ encR r := by unfold fileL; rw [List.flatMap_append]; simp
theorem app_str2 (F E : List UInt8) : (⟨F.toArray⟩ : ByteArray) ++ ⟨E.toArray⟩ = ⟨(F ++ E).toArray⟩ := app_str
theorem Gen.turn {w wr w' : World} {e : TypeId} {size g n c i m : Nat} {A : Option Addr} {v : Value} {xs : List Value} {row : Option Nat} (h : Gen w e size g A n c i wr v m xs) (hg : wr.grownBy w' row) (hr : ∀ k, row = some k → g < k ∧ v.ownBlock ≠ some k) : Gen w e size g A n c i w' v m xs :=
  ⟨h.src.grown hg (fun k e => (hr k e).1), h.own.kept hg (by
    cases h1 : v.ownBlock with
    | none => exact .inl rfl
    | some k => exact .inr (fun e => (hr k e.symm).2 h1)), h.bel.grown hg (Nat.le_of_lt h.src.lt) (fun k e => by have := (hr k e).1; omega)⟩
/-- Two lists that grow beside the ends. -/
structure XY (w w' : World) (g : Nat) (A : Option Addr) (n c : Nat) (ve : Value) (m : Nat) (es : List Value) (B : Nat) (vx : Value) (xs : List Int) (vy : Value) (ys : List Int) : Prop where
  gen : ∃ i, Gen w 3 1 g A n c i w' ve m es
  x : w'.ownsRow B 3 1 vx xs.length (xs.map Iv)
  y : w'.ownsRow B 3 1 vy ys.length (ys.map Iv)
  dis : ∀ k, vx.ownBlock = some k → vy.ownBlock ≠ some k
  low : ∀ k, ve.ownBlock = some k → k < B
  gB : g < B
  hB : B ≤ w'.heap.size
section
variable {w wr w' : World} {g : Nat} {A : Option Addr} {n c m B : Nat} {ve vx vy : Value} {es : List Value} {xs ys : List Int}
theorem XY.start {i : Nat} (h : Gen w 3 1 g A n c i wr ve m es) : XY w wr g A n c ve m es wr.heap.size (.slice none 0 0) [] (.slice none 0 0) [] :=
  ⟨⟨i, h⟩, World.ownsRow_nil _ _ _ _, World.ownsRow_nil _ _ _ _, (fun k h => by simp [Value.ownBlock] at h), fun k hk => (h.own.lt k hk).2, h.src.lt, Nat.le_refl _⟩
theorem XY.take (h : XY w wr g A n c ve m es B vx xs vy ys) (hs : ∃ i, Src w' g A n c i) (hg : wr.grownBy w' (some g)) : XY w w' g A n c ve m es B vx xs vy ys := by
  obtain ⟨i, hG⟩ := h.gen
  obtain ⟨i', hs⟩ := hs
  exact ⟨⟨i', hG.take hs hg⟩, kept_ne h.x hg (fresh_of h.x h.gB), kept_ne h.y hg (fresh_of h.y h.gB), h.dis, h.low, h.gB, Nat.le_trans h.hB hg.size⟩
theorem XY.growX {vx' : Value} {xs' : List Int} (h : XY w wr g A n c ve m es B vx xs vy ys) (ho : w'.ownsRow B 3 1 vx' xs'.length (xs'.map Iv)) (hg : wr.grownBy w' vx.ownBlock) (hat : vx'.ownBlock = vx.ownBlock ∨ vx'.ownBlock = some wr.heap.size) : XY w w' g A n c ve m es B vx' xs' vy ys := by
  obtain ⟨i, hG⟩ := h.gen
  have hB := h.hB; have hgB := h.gB
  refine ⟨⟨i, hG.turn hg (fun k e => ⟨by have := (h.x.lt k e).1; omega, fun e2 => by have := (h.x.lt k e).1; have := h.low k e2; omega⟩)⟩, ho, h.y.kept hg ?_, ?_, h.low, h.gB, Nat.le_trans h.hB hg.size⟩
  · cases h2 : vy.ownBlock with
    | none => exact .inl rfl
    | some k => exact .inr (fun e => h.dis k e.symm h2)
  · intro k hk h2
    rcases hat with e | e
    · exact h.dis k (e.symm.trans hk) h2
    · have := (h.y.lt k h2).2
      rw [e] at hk
      injection hk
      omega
theorem XY.growY {vy' : Value} {ys' : List Int} (h : XY w wr g A n c ve m es B vx xs vy ys) (ho : w'.ownsRow B 3 1 vy' ys'.length (ys'.map Iv)) (hg : wr.grownBy w' vy.ownBlock) (hat : vy'.ownBlock = vy.ownBlock ∨ vy'.ownBlock = some wr.heap.size) : XY w w' g A n c ve m es B vx xs vy' ys' := by
  obtain ⟨i, hG⟩ := h.gen
  have hB := h.hB; have hgB := h.gB
  refine ⟨⟨i, hG.turn hg (fun k e => ⟨by have := (h.y.lt k e).1; omega, fun e2 => by have := (h.y.lt k e).1; have := h.low k e2; omega⟩)⟩, h.x.kept hg ?_, ho, ?_, h.low, h.gB, Nat.le_trans h.hB hg.size⟩
  · cases h2 : vx.ownBlock with
    | none => exact .inl rfl
    | some k => exact .inr (fun e => h.dis k h2 e.symm)
  · intro k hk h2
    rcases hat with e | e
    · exact h.dis k hk (e.symm.trans h2)
    · have := (h.x.lt k hk).2
      rw [e] at h2
      injection h2
      omega
theorem XY.alloc (h : XY w wr g A n c ve m es B vx xs vy ys) (o : Obj) : XY w (wr.alloc o) g A n c ve m es B vx xs vy ys := by
  obtain ⟨i, hG⟩ := h.gen
  have hb := (Below.refl wr.heap.size wr).alloc (Nat.le_refl _) o
  exact ⟨⟨i, hG.call hb⟩, DS.call.kept_below h.x hb, DS.call.kept_below h.y hb, h.dis, h.low, h.gB, Nat.le_trans h.hB hb.size⟩
theorem XY.call (h : XY w wr g A n c ve m es B vx xs vy ys) (hb : Below wr.heap.size wr w') : XY w w' g A n c ve m es B vx xs vy ys := by
  obtain ⟨i, hG⟩ := h.gen
  exact ⟨⟨i, hG.call hb⟩, DS.call.kept_below h.x hb, DS.call.kept_below h.y hb, h.dis, h.low, h.gB, Nat.le_trans h.hB hb.size⟩
theorem XY.oneX (h : XY w wr g A n c ve m es B vx xs vy ys) (z : Int) (hm : xs.length ≤ 1000000)
    {ops : Array Oper} {rest : List Oper} {o : Oper} {a : Act} {Q : Exit → Act → World → Prop}
    (hK : ∀ v' w', XY w w' g A n c ve m es B v' (xs ++ [z]) vy ys → wpList Try.prog ops Q rest (a.put o.dst v') w')
    (hgd : o.guard = none) (so xo : Operand) (ho : o.op = .call { callee := .builtin .append, args := #[so, xo], argTypes := #[29, 29] })
    (hs : a.eval so = vx) (hx : a.eval xo = .slice (some ⟨wr.heap.size, 0, none⟩) 1 1) : wpList Try.prog ops Q (o :: rest) a (wr.alloc (.cells #[.int .i64 z] 3)) := by
  obtain ⟨ht, i, hi, hz, hs1, hs2⟩ := mints
  have ha := h.alloc (.cells #[.int .i64 z] 3)
  refine wpList_append_own_at _ hgd so xo _ ho B 3 i _ 1 8 ht hi hz hs1 hs2 rfl (by decide) vx xs.length _ hs ha.x ⟨wr.heap.size, 0, none⟩ 1 1 [Iv z] hx rfl ?_ (by intro u hu; simp at hu; subst hu; rfl) (by unfold maxLen; omega) (by omega) ha.hB ?_
  · intro j u hj
    have e0 : (⟨wr.heap.size, 0, none⟩ : Addr).add j = ⟨wr.heap.size, j, none⟩ := by unfold Addr.add; split <;> simp_all
    rw [e0, World.cell?_alloc_mark]
    simpa using hj
  · intro v' w' ho' hg _ hat
    exact hK v' w' (ha.growX (xs' := xs ++ [z]) (by rw [List.length_append, List.map_append]; simpa using ho') hg hat)
theorem XY.oneY (h : XY w wr g A n c ve m es B vx xs vy ys) (z : Int) (hm : ys.length ≤ 1000000)
    {ops : Array Oper} {rest : List Oper} {o : Oper} {a : Act} {Q : Exit → Act → World → Prop}
    (hK : ∀ v' w', XY w w' g A n c ve m es B vx xs v' (ys ++ [z]) → wpList Try.prog ops Q rest (a.put o.dst v') w')
    (hgd : o.guard = none) (so xo : Operand) (ho : o.op = .call { callee := .builtin .append, args := #[so, xo], argTypes := #[29, 29] })
    (hs : a.eval so = vy) (hx : a.eval xo = .slice (some ⟨wr.heap.size, 0, none⟩) 1 1) : wpList Try.prog ops Q (o :: rest) a (wr.alloc (.cells #[.int .i64 z] 3)) := by
  obtain ⟨ht, i, hi, hz, hs1, hs2⟩ := mints
  have ha := h.alloc (.cells #[.int .i64 z] 3)
  refine wpList_append_own_at _ hgd so xo _ ho B 3 i _ 1 8 ht hi hz hs1 hs2 rfl (by decide) vy ys.length _ hs ha.y ⟨wr.heap.size, 0, none⟩ 1 1 [Iv z] hx rfl ?_ (by intro u hu; simp at hu; subst hu; rfl) (by unfold maxLen; omega) (by omega) ha.hB ?_
  · intro j u hj
    have e0 : (⟨wr.heap.size, 0, none⟩ : Addr).add j = ⟨wr.heap.size, j, none⟩ := by unfold Addr.add; split <;> simp_all
    rw [e0, World.cell?_alloc_mark]
    simpa using hj
  · intro v' w' ho' hg _ hat
    exact hK v' w' (ha.growY (ys' := ys ++ [z]) (by rw [List.length_append, List.map_append]; simpa using ho') hg hat)
end
/-- What file returns. -/
def FileP (w : World) (e : Ending) (w' : World) : Prop :=
  ∃ (F : List UInt8) (rs : List Rc) (A : Option Addr) (c : Nat), e = .returned (.tuple #[Sv F, .slice A (rs.length + 1) c]) ∧ F = fileL rs ∧ (∀ r ∈ rs, chkR r = 0 ∧ keysOk r) ∧ rs.length ≤ 4 ∧ F.length ≤ 100000 ∧ Rd w' w'.heap.size A ((endsL rs).map Iv) ∧ rs.length + 1 ≤ c ∧ Below w.heap.size w w'
set_option maxRecDepth 100000 in
set_option maxHeartbeats 4000000 in
theorem file_any (A : Option Addr) (n c : Nat) (zs : List Int) (w : World) (hr : Rd w w.heap.size A (zs.map Iv)) (hn : zs.length = n) (hz : ∀ z ∈ zs, I64 z) (hm : n ≤ 17592186044416) :
    Calls Try.prog 19 #[.slice A n c] w (FileP w) := by
  have hs := Src.new (c := c) hr hn hz hm
  have hb0 := (Below.refl w.heap.size w).alloc (Nat.le_refl _) (.cells #[.slice A n c, .int .i64 0] 113)
  clear hr hn hz
  go_enter Try.func19, Try.ntmps19
  go_wp2_with fail
  refine (from_any A n c w).mono ?_; rintro e w' ⟨rfl, rfl⟩
  generalize w.alloc (.cells #[.slice A n c, .int .i64 0] 113) = w1 at *
  have hbe := (Below.refl w1.heap.size w1).alloc (Nat.le_refl _) (.cells #[.int .i64 0] 3)
  have hG0 : Gen w 3 1 w.heap.size A n c 0 (w1.alloc (.cells #[.int .i64 0] 3)) (.slice (some ⟨w1.heap.size, 0, none⟩) 1 1) 1 [.int .i64 0] :=
    ⟨hs.below hbe, (Blk.new' w1 3 #[.int .i64 0]).own rfl (by have := hs.lt; omega) (by unfold maxLen; omega), hb0.trans (hbe.mono (Nat.le_of_lt hs.lt))⟩
  go_upto_region 3 with fail
  clear hs hb0 hbe
  generalize w1.alloc (.cells #[.int .i64 0] 3) = w2 at *
  generalize w1.heap.size = ge at *
  generalize hgw : w.heap.size = g at *
  have HGW := Lib.hid hgw
  clear hgw
  go_wp2_with fail
  refine (next_any g A n c _ 4 _ hG0.src (by omega) (by omega)).mono ?_; rintro _ w3 ⟨k0, hk0, rfl, hs, hg⟩
  have hG1 := hG0.take hs hg
  have hwk : IntKind.i64.wrap (1 + (k0 : Int)) = 1 + (k0 : Int) := IntWalk.i64_in _ (by omega)
  clear hs hg hG0
  go_wp2_with fail
  go_loopw [5, 6, 7] (fun a b k wr => ∃ (F : List UInt8) (rs : List Rc) (kk : Nat), a = Sv F ∧ k = .int .i64 (kk : Int) ∧ kk + rs.length ≤ 4 ∧ Hid (F = fileL rs ∧ ∀ r ∈ rs, chkR r = 0 ∧ keysOk r) ∧ F.length ≤ 20000 * rs.length ∧ (∃ i, Gen w 3 1 g A n c i wr b (rs.length + 1) ((endsL rs).map Iv))) (fun _ _ k _ => (intOf k).toNat)
  case atStart => exact ⟨[], [], 1 + k0, rfl, by go_num, by simp; omega, ⟨rfl, by simp⟩, by simp, ⟨_, hG1⟩⟩
  case round =>
    clear hG1
    obtain ⟨F, rs, kk, rfl, rfl, hkk, HF, hFl, i, hG⟩ := hrel
    obtain ⟨Ae, ce, hve, hce⟩ := own_form hG.own
    subst hve
    by_cases hk : 0 < kk
    · have hd : decide (0 < (kk : Int)) = true := decide_eq_true (by omega)
      have hX0 := XY.start hG
      generalize wr.heap.size = Bx at *
      clear hG
      go_wp2_with fail
      go_loopw [8, 9, 10] (fun a b k wq => ∃ (j : Nat) (xs ys : List Int), k = .int .i64 (j : Int) ∧ j ≤ 8 ∧ xs.length = j ∧ ys.length = j ∧ Hid (∀ z ∈ xs, I64 z) ∧ Hid (∀ z ∈ ys, I64 z) ∧ XY w wq g A n c (.slice Ae (rs.length + 1) ce) (rs.length + 1) ((endsL rs).map Iv) Bx a xs b ys) (fun _ _ k _ => 8 - (intOf k).toNat)
      case atStart => exact ⟨0, [], [], rfl, by omega, rfl, rfl, (fun z h => by cases h), (fun z h => by cases h), hX0⟩
      case round =>
        clear hX0
        obtain ⟨j, xs, ys, rfl, hj, hxl, hyl, HIX, HIY, hX⟩ := hrel
        obtain ⟨Ax, cx, hvx, hcx⟩ := own_form hX.x
        obtain ⟨Ay, cy, hvy, hcy⟩ := own_form hX.y
        rw [hxl] at hvx hcx
        rw [hyl] at hvy hcy
        subst hvx
        subst hvy
        have HXL := Lib.hid (And.intro hxl hyl)
        clear hxl hyl
        by_cases hj8 : j < 8
        · have hd8 : decide ((j : Int) < 8) = true := decide_eq_true (by omega)
          obtain ⟨iq, hGq⟩ := hX.gen
          go_wp2_with fail
          refine (raw_any g A n c iq _ hGq.src).mono ?_; rintro _ wa ⟨z1, hz1, rfl, hs, hg⟩
          replace hX := hX.take ⟨_, hs⟩ hg
          clear hs hg hGq
          go_wp2_with (at_builtin; refine hX.oneX z1 (by rw [HXL.out.1]; omega) ?_ rfl _ _ rfl rfl rfl)
          intro v1 wb hX1
          obtain ⟨Ax2, cx2, hvx, hcx2⟩ := own_form hX1.x
          rw [List.length_append, List.length_singleton, HXL.out.1] at hvx hcx2
          subst hvx
          clear hX
          obtain ⟨iq, hGq⟩ := hX1.gen
          go_wp2_with fail
          refine (raw_any g A n c iq _ hGq.src).mono ?_; rintro _ wc ⟨z2, hz2, rfl, hs, hg⟩
          replace hX1 := hX1.take ⟨_, hs⟩ hg
          clear hs hg hGq
          go_wp2_with (at_builtin; refine hX1.oneY z2 (by rw [HXL.out.2]; omega) ?_ rfl _ _ rfl rfl rfl)
          intro v2 wd hX2
          obtain ⟨Ay2, cy2, hvy, hcy2⟩ := own_form hX2.y
          rw [List.length_append, List.length_singleton, HXL.out.2] at hvy hcy2
          subst hvy
          clear hX1
          have HZ1 := Lib.hid hz1
          have HZ2 := Lib.hid hz2
          clear hz1 hz2
          go_wp2
          go_roundw
          case rel => exact ⟨j + 1, xs ++ [z1], ys ++ [z2], by go_num, by omega, by rw [List.length_append, List.length_singleton, HXL.out.1], by rw [List.length_append, List.length_singleton, HXL.out.2], snoc_all' HIX.out HZ1.out, snoc_all' HIY.out HZ2.out, hX2⟩
          case measure => simp [intOf]; omega
        · have hj88 : j = 8 := by omega
          subst hj88
          obtain ⟨iq, hGq⟩ := hX.gen
          go_wp2_with fail
          refine (next_any g A n c iq 40 _ hGq.src (by omega) (by omega)).mono ?_; rintro _ wa ⟨k4, hk4, rfl, hs, hg⟩
          replace hX := hX.take ⟨_, hs⟩ hg
          clear hs hg hGq
          obtain ⟨iq, hGq⟩ := hX.gen
          have hw1 : IntKind.i64.wrap (2 * (k4 : Int)) = 2 * (k4 : Int) := IntWalk.i64_in _ (by omega)
          go_wp2_with fail
          refine (next_any g A n c iq 2 _ hGq.src (by omega) (by omega)).mono ?_; rintro _ wb ⟨k2, hk2, rfl, hs, hg⟩
          replace hX := hX.take ⟨_, hs⟩ hg
          clear hs hg hGq
          have hw2 : IntKind.i64.wrap (2 * (k4 : Int) + (k2 : Int)) = 2 * (k4 : Int) + (k2 : Int) := IntWalk.i64_in _ (by omega)
          have hw3 : IntKind.i64.wrap (2 * (k4 : Int) + (k2 : Int) + 12) = 2 * (k4 : Int) + (k2 : Int) + 12 := IntWalk.i64_in _ (by omega)
          have hxo := hX.x
          have hyo := hX.y
          rw [HXL.out.1] at hxo
          rw [HXL.out.2] at hyo
          have HRL := Lib.hid (recordL_any Ax 8 cx xs Ay 8 cy ys (2 * (k4 : Int) + (k2 : Int) + 12) 0 wb (Rd.of_own hxo) HXL.out.1 HIX.out (by omega) (Rd.of_own hyo) HXL.out.2 HIY.out (by omega) (by unfold I64; omega) (by unfold I64; omega))
          go_wp2_with fail
          refine HRL.out.mono ?_; rintro _ wc ⟨r, AR, q, cR, AS, q', cS, rfl, hRC, hkeys, hq, hq', hb1⟩
          clear HRL hw1 hw2 hw3 hxo hyo
          obtain ⟨iq, hGq⟩ := (hX.call hb1).gen
          have HEN := Lib.hid (rencode_any r AR q cR AS q' cS wc hRC hkeys)
          have hl1 := hRC.ln
          have hl2 := hRC.ln2
          clear hRC hb1 hX
          obtain ⟨ch, hch⟩ : ∃ ch, chkR r = ch := ⟨_, rfl⟩
          by_cases h0 : ch = 0
          · subst h0
            have hEV : encV r = encR r := if_pos hch
            rw [hch, hEV] at HEN
            have hb8 := bodyP_len hkeys hch
            have he8 := encR_len r
            have HF2 : Hid (F ++ encR r = fileL (rs ++ [r]) ∧ (∀ r2 ∈ rs ++ [r], chkR r2 = 0 ∧ keysOk r2) ∧ endsL (rs ++ [r]) = endsL rs ++ [((F ++ encR r).length : Int)]) := ⟨by rw [fileL_snoc, HF.out.1], snoc_all' HF.out.2 ⟨hch, hkeys⟩, by rw [endsL_snoc, HF.out.1]⟩
            have hlE : (encR r).length ≤ 20000 := by omega
            clear hch hEV hb8 he8 hl1 hl2 hkeys
            go_wp2_with fail
            refine HEN.out.mono ?_; rintro _ wd ⟨rfl, hb2⟩
            replace hGq := hGq.call hb2
            clear HEN hb2
            generalize encR r = E at *
            have hcat : ¬ (9223372036854775807 < F.length + E.length) := by omega
            go_upto_region 14 with fail
            rw [app_str2]
            have hlFE : (F ++ E).length ≤ 20000 * (rs.length + 1) := by rw [List.length_append]; omega
            generalize F ++ E = FE at *
            have hwk2 : IntKind.i64.wrap ((kk : Int) - 1) = (kk : Int) - 1 := IntWalk.i64_in _ (by omega)
            go_wp2_with (at_builtin; refine hGq.one mints rfl (by decide) (cs := #[.int .i64 (FE.length : Int)]) rfl (by intro u hu; simp at hu; subst hu; rfl) (by omega) (by unfold maxLen; omega) ?_ rfl _ _ rfl rfl rfl)
            intro v8 w8 G8
            have HG8 : Hid (∃ i, Gen w 3 1 g A n c i w8 v8 ((rs ++ [r]).length + 1) ((endsL (rs ++ [r])).map Iv)) := ⟨_, by rw [HF2.out.2.2, List.map_append, List.length_append]; simpa using G8⟩
            clear G8 hGq
            go_wp2
            go_roundw
            case rel => exact ⟨FE, rs ++ [r], kk - 1, rfl, by congr 1; omega, by rw [List.length_append, List.length_singleton]; omega, ⟨HF2.out.1, HF2.out.2.1⟩, by rw [List.length_append, List.length_singleton]; exact hlFE, HG8.out⟩
            case measure => simp [intOf]; omega
          · have hd0 : decide (ch = 0) = false := decide_eq_false h0
            rw [hch] at HEN
            clear hch
            go_wp2_with fail
            refine HEN.out.mono ?_; rintro _ wd ⟨rfl, hb2⟩
            replace hGq := hGq.call hb2
            clear HEN hb2
            have hwk2 : IntKind.i64.wrap ((kk : Int) - 1) = (kk : Int) - 1 := IntWalk.i64_in _ (by omega)
            go_wp2
            go_roundw
            case rel => exact ⟨F, rs, kk - 1, rfl, by congr 1; omega, by omega, HF, hFl, ⟨_, hGq⟩⟩
            case measure => simp [intOf]; omega
    · have hk0 : kk = 0 := by omega
      subst hk0
      go_wp2
      go_ret2
      exact ⟨F, rs, Ae, ce, rfl, HF.out.1, HF.out.2, by omega, by omega, Rd.of_own hG.own, hce, by rw [← HGW.out] at hG; exact hG.bel⟩

end Go.Proofs.Ytgacjpkgpegcdaa
