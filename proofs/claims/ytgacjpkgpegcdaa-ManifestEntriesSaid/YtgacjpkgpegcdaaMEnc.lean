/-
  manifest.Encode.
-/
import Derived.Test.YtgacjpkgpegcdaaMNum
import Derived.Test.YtgacjpkgpegcdaaMChk2
import Derived.Test.YtgacjpkgpegcdaaMFour
namespace Go.Proofs.Ytgacjpkgpegcdaa
open Go.RowKit

theorem Blk.bp {w w' : World} {B b g : Nat} {t : TypeId} {cs : List Value} {l : List UInt8} (h : Blk w g t cs) (hg : g < B ∨ (g ≠ b ∧ t ≠ 5)) (hp : BP B b l w w') : Blk w' g t cs := by
  refine (kept_heap ?_ hp).trans h
  rcases hg with hg | ⟨h1, h2⟩
  · exact .inl hg
  · exact .inr ⟨h1, _, _, _, h2, h⟩
/-- number(..) of a list that is written out. -/
theorem number_new {b : Nat} {l : List UInt8} {w2 : World} (hp : BP b b l w2 w2) (zs : List Int) (k : Nat) (cs : Array Value) (hcs : cs.toList = zs.map Iv) (hk : zs.length = k) (hz : ∀ z ∈ zs, 0 ≤ z ∧ z ≤ 4611686018427387904) (hm : k ≤ 1000000) (hl : l.length + 10 * k ≤ 10000000000) :
    Calls Try.prog 34 #[.slice (some ⟨w2.heap.size, 0, none⟩) k k, .pointer (some ⟨b, 0, none⟩)] (w2.alloc (.cells cs 3)) fun e w' => e = .returned (.tuple #[]) ∧ BP b b (l ++ zs.flatMap numP) w2 w' := by
  have hp1 := hp.alloc (.cells cs 3)
  refine (number_any b b l _ k k zs _ hp1.self ?_ hk hz hm hl).mono ?_
  · rw [← hcs]
    exact RdK.new (by decide) hp.lt
  · rintro e w' ⟨rfl, hq⟩
    exact ⟨rfl, hp1.trans hq⟩
theorem rank_bytes (L : List UInt8) (p : Rk) : (L ++ valP p.key) ++ [p.seq].flatMap numP = L ++ rankP p := by simp [rankP]
theorem valP_le {r : Rk} (hn : I64 r.key.n) (h : rankB r = true) : (valP r.key).length ≤ 82 := by
  have := rankP_len hn h
  unfold rankP at this
  rw [List.length_append] at this
  omega
set_option maxRecDepth 100000 in
set_option maxHeartbeats 4000000 in
theorem encode_ok (r : Rc) (A : Option Addr) (n c : Nat) (A2 : Option Addr) (n2 c2 : Nat) (w : World) (hr : RcAt w r A n c A2 n2 c2) (hk : keysOk r) (h0 : chkR r = 0) :
    Calls Try.prog 12 #[Kv r A n c A2 n2 c2] w fun e w' => e = .returned (.tuple #[Sv (encR r), .int .i64 0]) ∧ Below w.heap.size w w' := by
  obtain ⟨kd, ve, ns, ni, add, rem⟩ := r
  have hcz := chk_zero h0
  dsimp only [Kv] at *
  obtain ⟨m, rfl⟩ : ∃ m : Nat, kd = (m : Int) := ⟨kd.toNat, by have := hcz.1; omega⟩
  obtain ⟨hkd, ⟨v1, v2, s1, s2, hni⟩, la, lr, hadd, _, hrem⟩ := hcz
  dsimp only at hkd v1 v2 s1 s2 hni la lr hadd hrem
  have hni' := obj_iff.1 hni
  have HLN := Lib.hid hr.ln
  have HLN2 := Lib.hid hr.ln2
  dsimp only at HLN HLN2
  have ln256 : n ≤ 256 := by rw [← HLN.out]; exact la
  have ln256' : n2 ≤ 256 := by rw [← HLN2.out]; exact lr
  have HADD := Lib.hid hadd
  have HREM := Lib.hid hrem
  have HKEY := Lib.hid hk
  have hRb := Blk.new' w 31 #[.int .i64 (m : Int), .int .i64 ve, .int .i64 ns, .int .i64 ni, .slice A n c, .slice A2 n2 c2]
  have hbel : Below w.heap.size w (w.alloc (.cells #[.int .i64 (m : Int), .int .i64 ve, .int .i64 ns, .int .i64 ni, .slice A n c, .slice A2 n2 c2] 31)) := (Below.refl _ _).alloc (Nat.le_refl _) _
  have HCHK : Hid (∀ W : World, RcAt W ⟨(m : Int), ve, ns, ni, add, rem⟩ A n c A2 n2 c2 → Calls Try.prog 26 #[.agg #[.int .i64 (m : Int), .int .i64 ve, .int .i64 ns, .int .i64 ni, .slice A n c, .slice A2 n2 c2]] W fun e w' => e = .returned (.int .i64 0) ∧ Below W.heap.size W w') := fun W hW => by
    have := check_any ⟨(m : Int), ve, ns, ni, add, rem⟩ A n c A2 n2 c2 W hW
    rw [h0] at this; exact this
  have hr1 := hr.call hbel
  have HENC : Hid (encR ⟨(m : Int), ve, ns, ni, add, rem⟩ = sealL (bodyP ⟨(m : Int), ve, ns, ni, add, rem⟩) ++ fourL (crcL (sealL (bodyP ⟨(m : Int), ve, ns, ni, add, rem⟩)))) := rfl
  have HBL := Lib.hid (bodyP_len hk h0)
  have hm2 : m < 256 := by omega
  have hkb : IntKind.u8.wrap (m : Int) = (m : Int) := IntWalk.u8_in _ (by omega)
  clear h0 hk la lr hadd hrem hni hr
  go_enter Try.func12, Try.ntmps12
  go_wp2_with fail
  generalize w.alloc (.cells #[.int .i64 (m : Int), .int .i64 ve, .int .i64 ns, .int .i64 ni, .slice A n c, .slice A2 n2 c2] 31) = wa at *
  refine (HCHK.out _ hr1).mono ?_; rintro e w1 ⟨rfl, hb1⟩
  have hR1 := hRb.call hb1
  have k0 := fun o => (hR1.alloc o).cellAt 0 rfl
  have hr2 := hr1.call hb1
  have hbel1 := bt hbel hb1
  have hp0 : BP w1.heap.size w1.heap.size [] (w1.alloc (.cells #[.pointer none, .slice none 0 0] 64)) (w1.alloc (.cells #[.pointer none, .slice none 0 0] 64)) :=
    ⟨Lib.fresh_isBuilder _ _ _, Below.refl _ _, Lib.OthersKept.refl _ _ _, by simp⟩
  have hbelB : Below w1.heap.size w1 (w1.alloc (.cells #[.pointer none, .slice none 0 0] 64)) := (Below.refl _ _).alloc (Nat.le_refl _) _
  go_wp2_with fail
  generalize w1.alloc (.cells #[.pointer none, .slice none 0 0] 64) = wb at *
  have hR2 : Blk wb w.heap.size 31 [.int .i64 (m : Int), .int .i64 ve, .int .i64 ns, .int .i64 ni, .slice A n c, .slice A2 n2 c2] := hR1.call hbelB
  have hgb : w.heap.size < w1.heap.size := hR1.lt
  have hr3 : RcAt wb ⟨(m : Int), ve, ns, ni, add, rem⟩ A n c A2 n2 c2 := hr2.call hbelB
  generalize hbn : w1.heap.size = b at *
  refine (writeByte_any b b _ _ _ hp0.bld (by simp [Lib.byteCells]) hp0.sz).mono ?_; rintro e w2 ⟨rfl, hk2⟩
  have hp2 := hp0.write (l' := [UInt8.ofNat m]) hk2 (bytes_app1 [] m hm2)
  have hR3 := hR2.bp (.inl hgb) hp2
  have f1 := hR3.cellAt 1 rfl
  have f2 := hR3.cellAt 2 rfl
  have f3 := hR3.cellAt 3 rfl
  have f4 := hR3.cellAt 4 rfl
  clear k0 hk2
  go_wp2_with fail
  have hpr2 := hp2.bel
  have hra : Rd wb b A (add.flatMap entC) := by have := hr2.add; rw [hbn] at this; exact this.below hbelB
  have hrr : Rd wb b A2 (rem.map Iv) := by have := hr2.rem; rw [hbn] at this; exact this.below hbelB
  refine (number_new hp2.self [ve, ns, ni, (n : Int)] 4 _ rfl rfl (by intro z hz; simp at hz; omega) (by omega) (by simp)).mono ?_; rintro e w3 ⟨rfl, hq3⟩
  have hp3 := hp2.trans hq3
  have hR4 := hR3.bp (.inl hgb) hq3
  obtain ⟨H, hH⟩ : ∃ H, H = [UInt8.ofNat m] ++ [ve, ns, ni, (n : Int)].flatMap numP := ⟨_, rfl⟩
  rw [← hH] at hp3
  have hHl : H.length ≤ 100 := by
    have := flat_le (f := numP) (k := 10) (l := [ve, ns, ni, (n : Int)]) (by intro z hz; simp at hz; exact numP_len (by omega))
    rw [hH, List.length_append]; simp at this ⊢; omega
  have HH := Lib.hid hH
  have HEL : Hid (∀ i, i ≤ n → ((add.take i).flatMap entP).length ≤ 178 * i) := fun i hi => by
    have := flat_le (f := entP) (k := 178) (l := add.take i) (fun e he => entP_len (HKEY.out e (List.mem_of_mem_take he)) (addOk_mem HADD.out (List.mem_of_mem_take he)))
    rw [List.length_take] at this
    omega
  clear f1 f2 f3 f4 hH hq3
  have f4 := hR4.cellAt 4 rfl
  have f5 := hR4.cellAt 5 rfl
  go_wp2_with fail
  go_loopw [37] (fun a wr => ∃ i : Nat, a = .int .i64 (i : Int) ∧ i ≤ n ∧ BP b b (H ++ (add.take i).flatMap entP) wb wr) (fun a _ => n - (intOf a).toNat)
  case atStart => exact ⟨0, rfl, by omega, by simpa using hp3⟩
  case round =>
    clear hp3 hp2 hp0
    obtain ⟨i, rfl, hi, hp⟩ := hrel
    by_cases hin : i < n
    · obtain ⟨e, he⟩ : ∃ e, add[i]? = some e := ⟨_, List.getElem?_eq_getElem (by rw [HLN.out]; exact hin)⟩
      obtain ⟨ad, rfl, hadb, c0, c1, c2', c3, c4, c5, c6, c7, c8, c9, ca, cb⟩ := (hra.below hp.bel).ent he
      have heb := ent_iff.1 (addOk_mem HADD.out (List.mem_of_getElem? he))
      have hke := HKEY.out e (List.mem_of_getElem? he)
      have hel := HEL.out i hi
      have hpl := entP_len hke (addOk_mem HADD.out (List.mem_of_getElem? he))
      have HS : Hid ((add.take (i + 1)).flatMap entP = (add.take i).flatMap entP ++ (((([e.id, e.rows, e.live].flatMap numP ++ rankP e.lo) ++ rankP e.hi)) ++ [e.del].flatMap numP)) := by
        show _ = _
        rw [List.take_add_one, he, List.flatMap_append]
        simp [entP]
      obtain ⟨id, rows, live, lo, hiR, del⟩ := e
      dsimp only at c0 c1 c2' c3 c4 c5 c6 c7 c8 c9 ca cb hke HS
      obtain ⟨x1, x2, x3, x4, x5, x6⟩ := heb
      have hps4 := rank_iff.1 x4
      have hps5 := rank_iff.1 x5
      have hsz4 := plain_size hps4.1
      have hsz5 := plain_size hps5.1
      have hE := Blk.new' wr 40 #[.int .i64 id, .int .i64 rows, .int .i64 live, .bool lo.key.null, .int .i64 lo.key.n, .string lo.key.s, .int .i64 lo.seq, .bool hiR.key.null, .int .i64 hiR.key.n, .string hiR.key.s, .int .i64 hiR.seq, .int .i64 del]
      have hpx := hp.alloc (.cells #[.int .i64 id, .int .i64 rows, .int .i64 live, .bool lo.key.null, .int .i64 lo.key.n, .string lo.key.s, .int .i64 lo.seq, .bool hiR.key.null, .int .i64 hiR.key.n, .string hiR.key.s, .int .i64 hiR.seq, .int .i64 del] 40)
      have hblt := hp.lt
      have hne : wr.heap.size ≠ b := by omega
      have hplS : (entP ⟨id, rows, live, lo, hiR, del⟩).length = ([id, rows, live].flatMap numP).length + (rankP lo).length + (rankP hiR).length + ([del].flatMap numP).length := by simp [entP]; omega
      clear he
      go_upto_region 11 with fail
      generalize wr.alloc (.cells #[.int .i64 id, .int .i64 rows, .int .i64 live, .bool lo.key.null, .int .i64 lo.key.n, .string lo.key.s, .int .i64 lo.seq, .bool hiR.key.null, .int .i64 hiR.key.n, .string hiR.key.s, .int .i64 hiR.seq, .int .i64 del] 40) = wx at *
      clear c0 c1 c2' c3 c4 c5 c6 c7 c8 c9 ca cb hp
      have a0 := hE.cellAt 0 rfl
      have a1 := hE.cellAt 1 rfl
      have a2 := hE.cellAt 2 rfl
      go_wp2_with fail
      refine (number_new hpx.self [id, rows, live] 3 _ rfl rfl (by intro z hz; simp at hz; omega) (by omega) (by rw [List.length_append]; omega)).mono ?_; rintro e w4 ⟨rfl, hq4⟩
      have hp4 := hpx.trans hq4
      have hE4 := hE.bp (.inr ⟨hne, by decide⟩) hq4
      clear a0 a1 a2 hq4 hE hpx
      have a3 := hE4.cellAt 3 rfl
      have a4 := hE4.cellAt 4 rfl
      have a5 := hE4.cellAt 5 rfl
      have a6 := hE4.cellAt 6 rfl
      have a7 := hE4.cellAt 7 rfl
      have a8 := hE4.cellAt 8 rfl
      have a9 := hE4.cellAt 9 rfl
      have aa := hE4.cellAt 10 rfl
      have hQ := Blk.new' w4 38 #[.bool lo.key.null, .int .i64 lo.key.n, .string lo.key.s, .int .i64 lo.seq, .bool hiR.key.null, .int .i64 hiR.key.n, .string hiR.key.s, .int .i64 hiR.seq]
      have hpq := hp4.alloc (.cells #[.bool lo.key.null, .int .i64 lo.key.n, .string lo.key.s, .int .i64 lo.seq, .bool hiR.key.null, .int .i64 hiR.key.n, .string hiR.key.s, .int .i64 hiR.seq] 38)
      have hEq := hE4.alloc (.cells #[.bool lo.key.null, .int .i64 lo.key.n, .string lo.key.s, .int .i64 lo.seq, .bool hiR.key.null, .int .i64 hiR.key.n, .string hiR.key.s, .int .i64 hiR.seq] 38)
      have hneq : w4.heap.size ≠ b := by have := hp4.lt; omega
      go_wp2_with fail
      generalize w4.alloc (.cells #[.bool lo.key.null, .int .i64 lo.key.n, .string lo.key.s, .int .i64 lo.seq, .bool hiR.key.null, .int .i64 hiR.key.n, .string hiR.key.s, .int .i64 hiR.seq] 38) = wq at *
      clear a3 a4 a5 a6 a7 a8 a9 aa hE4 hp4
      have hLl : (H ++ (add.take i).flatMap entP ++ [id, rows, live].flatMap numP).length ≤ 1000000 := by rw [List.length_append, List.length_append]; omega
      generalize hL3 : H ++ (add.take i).flatMap entP ++ [id, rows, live].flatMap numP = L3 at *
      have HL3 := Lib.hid hL3
      clear hL3
      go_loopw [56] (fun a wz => ∃ j : Nat, a = .int .i64 (j : Int) ∧ j ≤ 2 ∧ BP b b (L3 ++ ([lo, hiR].take j).flatMap rankP) wq wz) (fun a _ => 2 - (intOf a).toNat)
      case atStart => exact ⟨0, rfl, by omega, by simpa using hpq.self⟩
      case round =>
        obtain ⟨j, rfl, hj, hpj⟩ := hrel
        have hQw := hQ.bp (.inr ⟨hneq, by decide⟩) hpj
        have hbj := hpj.lt
        rcases (show j = 0 ∨ j = 1 ∨ j = 2 by omega) with rfl | rfl | rfl
        · have hjl : (L3 ++ ([lo, hiR].take 0).flatMap rankP).length ≤ 1000100 := by simp; omega
          have r0 := hQw.cellAt 0 rfl
          have r1 := hQw.cellAt (0 + 1) rfl
          have r2 := hQw.cellAt (0 + 2) rfl
          have r3 := hQw.cellAt (0 + 3) rfl
          have hK := Blk.new' wr 38 #[.bool (lo).key.null, .int .i64 (lo).key.n, .string (lo).key.s, .int .i64 (lo).seq]
          have hpk := hpj.alloc (.cells #[.bool (lo).key.null, .int .i64 (lo).key.n, .string (lo).key.s, .int .i64 (lo).seq] 38)
          have hnek : wr.heap.size ≠ b := by omega
          go_upto_region 15 with fail
          generalize wr.alloc (.cells #[.bool (lo).key.null, .int .i64 (lo).key.n, .string (lo).key.s, .int .i64 (lo).seq] 38) = wk at *
          clear r0 r1 r2 r3
          have k0 := hK.cellAt 0 rfl
          have k1 := hK.cellAt 1 rfl
          have k2 := hK.cellAt 2 rfl
          go_wp2_with fail
          refine (vput_any (lo).key _ hke.1 (by omega)).mono ?_; rintro e w5 ⟨rfl, hb5⟩
          have hpv := hpk.call hb5
          have hK5 := hK.call hb5
          have hvl : (valP (lo).key).length ≤ 82 := valP_le (r := lo) hke.1 x4
          go_wp2_with fail
          refine (writeString_any b b _ _ _ hpv.bld (by rw [bytes_len, size_mk]; omega) hpv.sz).mono ?_; rintro e w6 ⟨rfl, hk6⟩
          have hpw := hpv.write (l' := (L3 ++ ([lo, hiR].take 0).flatMap rankP) ++ valP (lo).key) hk6 (by rw [bytes_app])
          have hqw := hpv.self.write (l' := (L3 ++ ([lo, hiR].take 0).flatMap rankP) ++ valP (lo).key) hk6 (by rw [bytes_app])
          have hK6 := hK5.bp (.inr ⟨hnek, by decide⟩) hqw
          clear k0 k1 k2 hk6
          have k3 := hK6.cellAt 3 rfl
          go_wp2_with fail
          refine (number_new hpw.self [(lo).seq] 1 _ rfl rfl (by intro z hz; simp at hz; omega) (by omega) (by rw [List.length_append]; omega)).mono ?_; rintro e w7 ⟨rfl, hq7⟩
          have hp7 := hpw.trans hq7
          rw [rank_bytes] at hp7
          go_wp2
          go_roundw
          case rel => exact ⟨1, by go_num, by omega, by simpa using hp7⟩
          case measure => simp [intOf]
        · have hjl : (L3 ++ ([lo, hiR].take 1).flatMap rankP).length ≤ 1000100 := by have h1 : (rankP lo).length ≤ 82 := rankP_len (r := lo) hke.1 x4; simp; omega
          have r0 := hQw.cellAt 4 rfl
          have r1 := hQw.cellAt (4 + 1) rfl
          have r2 := hQw.cellAt (4 + 2) rfl
          have r3 := hQw.cellAt (4 + 3) rfl
          have hK := Blk.new' wr 38 #[.bool (hiR).key.null, .int .i64 (hiR).key.n, .string (hiR).key.s, .int .i64 (hiR).seq]
          have hpk := hpj.alloc (.cells #[.bool (hiR).key.null, .int .i64 (hiR).key.n, .string (hiR).key.s, .int .i64 (hiR).seq] 38)
          have hnek : wr.heap.size ≠ b := by omega
          go_upto_region 15 with fail
          generalize wr.alloc (.cells #[.bool (hiR).key.null, .int .i64 (hiR).key.n, .string (hiR).key.s, .int .i64 (hiR).seq] 38) = wk at *
          clear r0 r1 r2 r3
          have k0 := hK.cellAt 0 rfl
          have k1 := hK.cellAt 1 rfl
          have k2 := hK.cellAt 2 rfl
          go_wp2_with fail
          refine (vput_any (hiR).key _ hke.2 (by omega)).mono ?_; rintro e w5 ⟨rfl, hb5⟩
          have hpv := hpk.call hb5
          have hK5 := hK.call hb5
          have hvl : (valP (hiR).key).length ≤ 82 := valP_le (r := hiR) hke.2 x5
          go_wp2_with fail
          refine (writeString_any b b _ _ _ hpv.bld (by rw [bytes_len, size_mk]; omega) hpv.sz).mono ?_; rintro e w6 ⟨rfl, hk6⟩
          have hpw := hpv.write (l' := (L3 ++ ([lo, hiR].take 1).flatMap rankP) ++ valP (hiR).key) hk6 (by rw [bytes_app])
          have hqw := hpv.self.write (l' := (L3 ++ ([lo, hiR].take 1).flatMap rankP) ++ valP (hiR).key) hk6 (by rw [bytes_app])
          have hK6 := hK5.bp (.inr ⟨hnek, by decide⟩) hqw
          clear k0 k1 k2 hk6
          have k3 := hK6.cellAt 3 rfl
          go_wp2_with fail
          refine (number_new hpw.self [(hiR).seq] 1 _ rfl rfl (by intro z hz; simp at hz; omega) (by omega) (by rw [List.length_append]; omega)).mono ?_; rintro e w7 ⟨rfl, hq7⟩
          have hp7 := hpw.trans hq7
          rw [rank_bytes] at hp7
          go_wp2
          go_roundw
          case rel => exact ⟨2, by go_num, by omega, by simpa using hp7⟩
          case measure => simp [intOf]
        · have hEw := hEq.bp (.inr ⟨hne, by decide⟩) hpj
          have ab := hEw.cellAt 11 rfl
          have hpz := hpq.trans hpj
          have hjl : (L3 ++ ([lo, hiR].take 2).flatMap rankP).length ≤ 1000200 := by have h1 : (rankP lo).length ≤ 82 := rankP_len (r := lo) hke.1 x4; have h2 : (rankP hiR).length ≤ 82 := rankP_len (r := hiR) hke.2 x5; simp; omega
          go_wp2_with fail
          refine (number_new hpz.self [del] 1 _ rfl rfl (by intro z hz; simp at hz; omega) (by omega) (by omega)).mono ?_; rintro e w8 ⟨rfl, hq8⟩
          have hp8 := hpz.trans hq8
          have HEQ : Hid (L3 ++ ([lo, hiR].take 2).flatMap rankP ++ [del].flatMap numP = H ++ (add.take (i + 1)).flatMap entP) := by
            show _ = _
            rw [HS.out, ← HL3.out]
            simp
          rw [HEQ.out] at hp8
          go_wp2
          exact ⟨⟨i + 1, by go_num, by omega, hp8⟩, by simp [intOf]; omega⟩
    · have hi2 : i = n := by omega
      have ht : add.take i = add := by rw [hi2, ← HLN.out]; exact List.take_length
      rw [ht] at hp
      have hfl := HEL.out n (Nat.le_refl _)
      rw [show add.take n = add by rw [← HLN.out]; exact List.take_length] at hfl
      have hR5 := hR2.bp (.inl hgb) hp
      clear f4 f5
      have f4 := hR5.cellAt 4 rfl
      have f5 := hR5.cellAt 5 rfl
      go_wp2_with fail
      refine (number_new hp.self [(n2 : Int)] 1 _ rfl rfl (by intro z hz; simp at hz; omega) (by omega) (by rw [List.length_append]; omega)).mono ?_; rintro e w4 ⟨rfl, hq4⟩
      have hp4 := hp.trans hq4
      have hR6 := hR5.bp (.inl hgb) hq4
      clear f4 f5
      have f5 := hR6.cellAt 5 rfl
      have l4 := putL_small (k := 1) (v := n2) (by omega)
      go_wp2_with fail
      have hl5 : (H ++ add.flatMap entP ++ [(n2 : Int)].flatMap numP).length + 10 * n2 ≤ 10000000000 := by
        have e4 : ([(n2 : Int)].flatMap numP).length = (putL n2).length := by simp [numP]
        rw [List.length_append, List.length_append]
        omega
      refine (number_any b b _ A2 n2 c2 rem _ hp4.self (RdK.of_rd (hrr.below hp4.bel)) HLN2.out (fun z hz => by have := obj_iff.1 (remOk_mem HREM.out hz); omega) (by omega) hl5).mono ?_; rintro e w5 ⟨rfl, hq5⟩
      have hp5 := hp4.trans hq5
      have HBODY : Hid (H ++ add.flatMap entP ++ [(n2 : Int)].flatMap numP ++ rem.flatMap numP = bodyP ⟨(m : Int), ve, ns, ni, add, rem⟩) := by
        show _ = _
        rw [HH.out]
        unfold bodyP
        dsimp only
        rw [HLN.out, HLN2.out]
        simp [numP]
      rw [HBODY.out] at hp5
      have hbl := HBL.out
      rw [HLN.out, HLN2.out] at hbl
      clear HBL HBODY HH f5
      generalize bodyP ⟨(m : Int), ve, ns, ni, add, rem⟩ = body at *
      have hcvt : IntKind.u32.wrap (body.length : Int) = (body.length : Int) := by rw [w32]; omega
      go_wp2_with fail
      refine (bldLen_any b b _ _ hp5.bld).mono ?_; rintro e w6 ⟨rfl, rfl⟩
      rw [bytes_len]
      go_wp2_with fail
      refine (put4_any body.length _ (by omega)).mono ?_; rintro e w7 ⟨rfl, hb7⟩
      have hp7 := hp5.call hb7
      go_wp2_with fail
      refine (bldString_any b b body _ hp7.bld hp7.sz).mono ?_; rintro e w8 ⟨rfl, hb8⟩
      have hW8 : Below w.heap.size w w8 := (hbel1.trans (hbelB.mono (Nat.le_of_lt hgb))).trans ((hp7.bel.trans hb8).mono (Nat.le_of_lt hgb))
      have sa1 := sadd (P := Try.prog) (a := fourL body.length) (b := body) (by rw [fourL_len]; omega)
      have HSL : Hid (fourL body.length ++ body = sealL body) := rfl
      rw [HSL.out] at sa1
      have hsl : (sealL body).length ≤ 100000 := by rw [← HSL.out, List.length_append, fourL_len]; omega
      have sa2 := sadd (P := Try.prog) (a := sealL body) (b := fourL (crcL (sealL body))) (by rw [fourL_len]; omega)
      have hcl := crcL_lt (sealL body)
      clear HSL hp7 hp5 hp4 hq5 hp hq4
      generalize sealL body = sb at *
      go_wp2_with fail
      refine (table_any _).mono ?_; rintro e w9 ⟨A9, c9, rfl, hr9, hb9⟩
      go_wp2_with fail
      refine (sum_any A9 c9 _ _ hr9 (by rw [size_mk]; omega)).mono ?_; rintro e w10 ⟨rfl, rfl⟩
      rw [show (ByteArray.mk sb.toArray).data.toList = sb from rfl]
      go_wp2_with fail
      refine (put4_any _ _ hcl).mono ?_; rintro e w11 ⟨rfl, hb11⟩
      go_wp2
      go_ret2
      exact ⟨by rw [HENC.out] <;> rfl, bt (bt hW8 hb9) hb11⟩

set_option maxRecDepth 100000 in
set_option maxHeartbeats 4000000 in
theorem encode_err (r : Rc) (A : Option Addr) (n c : Nat) (A2 : Option Addr) (n2 c2 : Nat) (w : World) (hr : RcAt w r A n c A2 n2 c2) (h0 : chkR r ≠ 0) :
    Calls Try.prog 12 #[Kv r A n c A2 n2 c2] w fun e w' => e = .returned (.tuple #[Sv [], .int .i64 (chkR r)]) ∧ Below w.heap.size w w' := by
  obtain ⟨kd, ve, ns, ni, add, rem⟩ := r
  dsimp only [Kv] at *
  have hbel : Below w.heap.size w (w.alloc (.cells #[.int .i64 kd, .int .i64 ve, .int .i64 ns, .int .i64 ni, .slice A n c, .slice A2 n2 c2] 31)) := (Below.refl _ _).alloc (Nat.le_refl _) _
  have HCHK : Hid (∀ W : World, RcAt W ⟨kd, ve, ns, ni, add, rem⟩ A n c A2 n2 c2 → Calls Try.prog 26 #[.agg #[.int .i64 kd, .int .i64 ve, .int .i64 ns, .int .i64 ni, .slice A n c, .slice A2 n2 c2]] W fun e w' => e = .returned (.int .i64 (chkR ⟨kd, ve, ns, ni, add, rem⟩)) ∧ Below W.heap.size W w') := fun W hW => check_any ⟨kd, ve, ns, ni, add, rem⟩ A n c A2 n2 c2 W hW
  have hr1 := hr.call hbel
  generalize chkR ⟨kd, ve, ns, ni, add, rem⟩ = ck at *
  have hb : (ck != 0) = true := by simpa using h0
  clear h0 hr
  go_enter Try.func12, Try.ntmps12
  go_wp2_with fail
  generalize w.alloc (.cells #[.int .i64 kd, .int .i64 ve, .int .i64 ns, .int .i64 ni, .slice A n c, .slice A2 n2 c2] 31) = wa at *
  refine (HCHK.out _ hr1).mono ?_; rintro e w1 ⟨rfl, hb1⟩
  go_wp2
  go_ret2
  exact ⟨rfl, bt hbel hb1⟩
/-- What Encode returns. -/
noncomputable def encV (r : Rc) : List UInt8 := if chkR r = 0 then encR r else []
theorem encode_any (r : Rc) (A : Option Addr) (n c : Nat) (A2 : Option Addr) (n2 c2 : Nat) (w : World) (hr : RcAt w r A n c A2 n2 c2) (hk : keysOk r) :
    Calls Try.prog 12 #[Kv r A n c A2 n2 c2] w fun e w' => e = .returned (.tuple #[Sv (encV r), .int .i64 (chkR r)]) ∧ Below w.heap.size w w' := by
  by_cases h : chkR r = 0
  · have e : encV r = encR r := if_pos h
    rw [e, h]
    exact encode_ok r A n c A2 n2 c2 w hr hk h
  · have e : encV r = [] := if_neg h
    rw [e]
    exact encode_err r A n c A2 n2 c2 w hr h

end Go.Proofs.Ytgacjpkgpegcdaa
