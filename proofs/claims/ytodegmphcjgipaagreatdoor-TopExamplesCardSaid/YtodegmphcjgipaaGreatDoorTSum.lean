/-
  Functions that are told, not run: the table of checksums, and checksums.
-/
import Derived.Test.YtodegmphcjgipaaGreatDoorTC
import Derived.Test.YtodegmphcjgipaaGreatDoorTCrc
import Derived.KernelRfl
namespace Go.Proofs.YtodegmphcjgipaaGreatDoor
namespace Ev
open Go Go.RowKit

/-- a number, reckoned ahead of its use -/
noncomputable def force {α : Type} (n : Nat) (k : Nat → α) : α := Nat.rec (k 0) (fun m _ => k (Nat.succ m)) n
theorem force_eq {α : Type} (n : Nat) (k : Nat → α) : force n k = k n := by cases n <;> rfl
noncomputable def crcBit (x : Nat) : Nat := bi (Nat.beq (Nat.mod x 2) 1) (Nat.xor (Nat.div x 2) 2197175160) (Nat.div x 2)
noncomputable def crcTab (k : Nat) : Nat → Nat := Nat.rec (motive := fun _ => Nat → Nat) (fun x => x) (fun _ ih x => force (ih x) crcBit) k
noncomputable def crcStep (v b : Nat) : Nat := Nat.xor (Nat.div v 256) (crcTab 8 (Nat.xor (Nat.mod v 256) b))
noncomputable def crcF (l : List Nat) : Nat → Nat := List.rec (motive := fun _ => Nat → Nat) (fun v => Nat.sub 4294967295 v) (fun b _ ih v => force (crcStep v b) ih) l
theorem crcBit_eq (x : Nat) : crcBit x = bitC x := by
  unfold crcBit bitC
  by_cases h : x % 2 = 1
  · rw [if_pos h, show Nat.mod x 2 = 1 from h]; rfl
  · rw [if_neg h, show Nat.mod x 2 = x % 2 from rfl, beq_ne h]; rfl
theorem crcTab_eq : ∀ (k x : Nat), crcTab k x = bitsC k x
  | 0, x => rfl
  | k + 1, x => by
    show force (crcTab k x) crcBit = bitC (bitsC k x)
    rw [force_eq, crcBit_eq, crcTab_eq k x]
theorem crcF_eq : ∀ (s : List UInt8) (v : Nat), crcF (s.map UInt8.toNat) v = 4294967295 - s.foldl stepC v
  | [], v => rfl
  | b :: s, v => by
    show force (crcStep v b.toNat) (crcF (s.map UInt8.toNat)) = _
    rw [force_eq, crcF_eq s]
    show 4294967295 - s.foldl stepC (crcStep v b.toNat) = 4294967295 - s.foldl stepC (stepC v b)
    rw [show crcStep v b.toNat = stepC v b from by unfold crcStep; rw [crcTab_eq]; rfl]

/-- the table's cells -/
noncomputable def tabTr : Tr V := (.node (.node (.node (.node (.node (.node (.node (.node (.node .nil (some (.int .u32 (2910671697))) .nil) (some (.int .u32 (797665321))) .nil) (some (.int .u32 (1861252501))) (.node .nil (some (.int .u32 (3959836397))) .nil)) (some (.int .u32 (1313733451))) (.node (.node .nil (some (.int .u32 (3434856499))) .nil) (some (.int .u32 (255256311))) (.node .nil (some (.int .u32 (2378227087))) .nil))) (some (.int .u32 (1578318884))) (.node (.node (.node .nil (some (.int .u32 (3705997148))) .nil) (some (.int .u32 (526918040))) (.node .nil (some (.int .u32 (2644384480))) .nil)) (some (.int .u32 (2125378298))) (.node (.node .nil (some (.int .u32 (4233660802))) .nil) (some (.int .u32 (1070968646))) (.node .nil (some (.int .u32 (3173225534))) .nil)))) (some (.int .u32 (3570033899))) (.node (.node (.node (.node .nil (some (.int .u32 (1446797203))) .nil) (some (.int .u32 (2511436119))) (.node .nil (some (.int .u32 (390545967))) .nil)) (some (.int .u32 (4101499445))) (.node (.node .nil (some (.int .u32 (1988219213))) .nil) (some (.int .u32 (3037525897))) (.node .nil (some (.int .u32 (939183345))) .nil))) (some (.int .u32 (3298075524))) (.node (.node (.node .nil (some (.int .u32 (1180866812))) .nil) (some (.int .u32 (2247081528))) (.node .nil (some (.int .u32 (119113024))) .nil)) (some (.int .u32 (3827903834))) (.node (.node .nil (some (.int .u32 (1725896226))) .nil) (some (.int .u32 (2773627110))) (.node .nil (some (.int .u32 (665062302))) .nil))))) (some (.int .u32 (324072436))) (.node (.node (.node (.node (.node .nil (some (.int .u32 (2443626636))) .nil) (some (.int .u32 (1378610760))) (.node .nil (some (.int .u32 (3504198960))) .nil)) (some (.int .u32 (871202090))) (.node (.node .nil (some (.int .u32 (2971354706))) .nil) (some (.int .u32 (1922457750))) (.node .nil (some (.int .u32 (4032846830))) .nil))) (some (.int .u32 (51262619))) (.node (.node (.node .nil (some (.int .u32 (2180517859))) .nil) (some (.int .u32 (1114974503))) (.node .nil (some (.int .u32 (3229815391))) .nil)) (some (.int .u32 (598981189))) (.node (.node .nil (some (.int .u32 (2705686845))) .nil) (some (.int .u32 (1657317369))) (.node .nil (some (.int .u32 (3762199681))) .nil)))) (some (.int .u32 (2575936315))) (.node (.node (.node (.node .nil (some (.int .u32 (461344835))) .nil) (some (.int .u32 (3639785095))) (.node .nil (some (.int .u32 (1510247935))) .nil)) (some (.int .u32 (3107202533))) (.node (.node .nil (some (.int .u32 (1002577565))) .nil) (some (.int .u32 (4165941337))) (.node .nil (some (.int .u32 (2058945313))) .nil))) (some (.int .u32 (2312596564))) (.node (.node (.node .nil (some (.int .u32 (186734380))) .nil) (some (.int .u32 (3366744552))) (.node .nil (some (.int .u32 (1247431312))) .nil)) (some (.int .u32 (2842354314))) (.node (.node .nil (some (.int .u32 (731699698))) .nil) (some (.int .u32 (3893493558))) (.node .nil (some (.int .u32 (1793573966))) .nil)))))) (some (.int .u32 (4067132163))) (.node (.node (.node (.node (.node (.node .nil (some (.int .u32 (1889384571))) .nil) (some (.int .u32 (3004210879))) (.node .nil (some (.int .u32 (837199303))) .nil)) (some (.int .u32 (3537243613))) (.node (.node .nil (some (.int .u32 (1344288421))) .nil) (some (.int .u32 (2477592673))) (.node .nil (some (.int .u32 (291187481))) .nil))) (some (.int .u32 (3795141740))) (.node (.node (.node .nil (some (.int .u32 (1623424788))) .nil) (some (.int .u32 (2739821008))) (.node .nil (some (.int .u32 (565732008))) .nil)) (some (.int .u32 (3263744690))) (.node (.node .nil (some (.int .u32 (1082061258))) .nil) (some (.int .u32 (2213795598))) (.node .nil (some (.int .u32 (17165430))) .nil)))) (some (.int .u32 (2024987596))) (.node (.node (.node (.node .nil (some (.int .u32 (4198817972))) .nil) (some (.int .u32 (969524848))) (.node .nil (some (.int .u32 (3141532936))) .nil)) (some (.int .u32 (1477399826))) (.node (.node .nil (some (.int .u32 (3673779818))) .nil) (some (.int .u32 (427051182))) (.node .nil (some (.int .u32 (2609017814))) .nil))) (some (.int .u32 (1760304291))) (.node (.node (.node .nil (some (.int .u32 (3927582683))) .nil) (some (.int .u32 (697762079))) (.node .nil (some (.int .u32 (2875275879))) .nil)) (some (.int .u32 (1213305469))) (.node (.node .nil (some (.int .u32 (3399985413))) .nil) (some (.int .u32 (153784257))) (.node .nil (some (.int .u32 (2346497209))) .nil))))) (some (.int .u32 (904991772))) (.node (.node (.node (.node (.node .nil (some (.int .u32 (3070701412))) .nil) (some (.int .u32 (1955203488))) (.node .nil (some (.int .u32 (4135334616))) .nil)) (some (.int .u32 (357341890))) (.node (.node .nil (some (.int .u32 (2545590714))) .nil) (some (.int .u32 (1412925310))) (.node .nil (some (.int .u32 (3603020806))) .nil))) (some (.int .u32 (632279923))) (.node (.node (.node .nil (some (.int .u32 (2807687179))) .nil) (some (.int .u32 (1691668175))) (.node .nil (some (.int .u32 (3861050807))) .nil)) (some (.int .u32 (85089709))) (.node (.node .nil (some (.int .u32 (2279892693))) .nil) (some (.int .u32 (1147748369))) (.node .nil (some (.int .u32 (3332340585))) .nil)))) (some (.int .u32 (3207089363))) (.node (.node (.node (.node .nil (some (.int .u32 (1037989803))) .nil) (some (.int .u32 (4266873199))) (.node .nil (some (.int .u32 (2091215383))) .nil)) (some (.int .u32 (2677391885))) (.node (.node .nil (some (.int .u32 (493091189))) .nil) (some (.int .u32 (3740196785))) (.node .nil (some (.int .u32 (1545135305))) .nil))) (some (.int .u32 (2943781820))) (.node (.node (.node .nil (some (.int .u32 (763408580))) .nil) (some (.int .u32 (3993867776))) (.node .nil (some (.int .u32 (1828433272))) .nil)) (some (.int .u32 (2412447074))) (.node (.node .nil (some (.int .u32 (222117402))) .nil) (some (.int .u32 (3467647198))) (.node .nil (some (.int .u32 (1279665062))) .nil))))))) (some (.int .u32 (0))) (.node (.node (.node (.node (.node (.node (.node .nil (some (.int .u32 (2197175160))) .nil) (some (.int .u32 (1098587580))) (.node .nil (some (.int .u32 (3280807620))) .nil)) (some (.int .u32 (549293790))) (.node (.node .nil (some (.int .u32 (2722870694))) .nil) (some (.int .u32 (1640403810))) (.node .nil (some (.int .u32 (3811616794))) .nil))) (some (.int .u32 (274646895))) (.node (.node (.node .nil (some (.int .u32 (2460548119))) .nil) (some (.int .u32 (1361435347))) (.node .nil (some (.int .u32 (3553878443))) .nil)) (some (.int .u32 (820201905))) (.node (.node .nil (some (.int .u32 (2987750089))) .nil) (some (.int .u32 (1905808397))) (.node .nil (some (.int .u32 (4084100981))) .nil)))) (some (.int .u32 (2329499855))) (.node (.node (.node (.node .nil (some (.int .u32 (137323447))) .nil) (some (.int .u32 (3416409459))) (.node .nil (some (.int .u32 (1230274059))) .nil)) (some (.int .u32 (2858735121))) (.node (.node .nil (some (.int .u32 (680717673))) .nil) (some (.int .u32 (3944729517))) (.node .nil (some (.int .u32 (1776939221))) .nil))) (some (.int .u32 (2592579488))) (.node (.node (.node .nil (some (.int .u32 (410100952))) .nil) (some (.int .u32 (3690758684))) (.node .nil (some (.int .u32 (1493875044))) .nil)) (some (.int .u32 (3124367742))) (.node (.node .nil (some (.int .u32 (952904198))) .nil) (some (.int .u32 (4215344322))) (.node .nil (some (.int .u32 (2042050490))) .nil))))) (some (.int .u32 (3348797215))) (.node (.node (.node (.node (.node .nil (some (.int .u32 (1164749927))) .nil) (some (.int .u32 (2262928035))) (.node .nil (some (.int .u32 (68661723))) .nil)) (some (.int .u32 (3878099393))) (.node (.node .nil (some (.int .u32 (1708204729))) .nil) (some (.int .u32 (2791048317))) (.node .nil (some (.int .u32 (615137029))) .nil))) (some (.int .u32 (3619967088))) (.node (.node (.node .nil (some (.int .u32 (1429367560))) .nil) (some (.int .u32 (2529119692))) (.node .nil (some (.int .u32 (340358836))) .nil)) (some (.int .u32 (4151959214))) (.node (.node .nil (some (.int .u32 (1972364758))) .nil) (some (.int .u32 (3053634322))) (.node .nil (some (.int .u32 (888469610))) .nil)))) (some (.int .u32 (1296289744))) (.node (.node (.node (.node .nil (some (.int .u32 (3484808360))) .nil) (some (.int .u32 (205050476))) (.node .nil (some (.int .u32 (2395924756))) .nil)) (some (.int .u32 (1845379342))) (.node (.node .nil (some (.int .u32 (4010310262))) .nil) (some (.int .u32 (746937522))) (.node .nil (some (.int .u32 (2926798794))) .nil))) (some (.int .u32 (1562183871))) (.node (.node (.node .nil (some (.int .u32 (3756733383))) .nil) (some (.int .u32 (476452099))) (.node .nil (some (.int .u32 (2660249211))) .nil)) (some (.int .u32 (2107672161))) (.node (.node .nil (some (.int .u32 (4283874585))) .nil) (some (.int .u32 (1021025245))) (.node .nil (some (.int .u32 (3190661285))) .nil)))))) (some (.int .u32 (3778769143))) (.node (.node (.node (.node (.node (.node .nil (some (.int .u32 (1674398607))) .nil) (some (.int .u32 (2688576843))) (.node .nil (some (.int .u32 (582374963))) .nil)) (some (.int .u32 (3246849577))) (.node (.node .nil (some (.int .u32 (1131464017))) .nil) (some (.int .u32 (2164122517))) (.node .nil (some (.int .u32 (34330861))) .nil))) (some (.int .u32 (4049975192))) (.node (.node (.node .nil (some (.int .u32 (1939049696))) .nil) (some (.int .u32 (2954799652))) (.node .nil (some (.int .u32 (854102364))) .nil)) (some (.int .u32 (3520608582))) (.node (.node .nil (some (.int .u32 (1395524158))) .nil) (some (.int .u32 (2426610938))) (.node .nil (some (.int .u32 (307568514))) .nil)))) (some (.int .u32 (1809983544))) (.node (.node (.node (.node .nil (some (.int .u32 (3910406976))) .nil) (some (.int .u32 (714683780))) (.node .nil (some (.int .u32 (2825850620))) .nil)) (some (.int .u32 (1264559846))) (.node (.node .nil (some (.int .u32 (3383336350))) .nil) (some (.int .u32 (170179418))) (.node .nil (some (.int .u32 (2295496738))) .nil))) (some (.int .u32 (2075979607))) (.node (.node (.node .nil (some (.int .u32 (4182430767))) .nil) (some (.int .u32 (986182379))) (.node .nil (some (.int .u32 (3090270611))) .nil)) (some (.int .u32 (1526817161))) (.node (.node .nil (some (.int .u32 (3656866545))) .nil) (some (.int .u32 (444234805))) (.node .nil (some (.int .u32 (2559330125))) .nil))))) (some (.int .u32 (648144872))) (.node (.node (.node (.node (.node .nil (some (.int .u32 (2757221520))) .nil) (some (.int .u32 (1742404180))) (.node .nil (some (.int .u32 (3844915500))) .nil)) (some (.int .u32 (102525238))) (.node (.node .nil (some (.int .u32 (2229949006))) .nil) (some (.int .u32 (1197962378))) (.node .nil (some (.int .u32 (3314634738))) .nil))) (some (.int .u32 (922689671))) (.node (.node (.node .nil (some (.int .u32 (3020495871))) .nil) (some (.int .u32 (2005155131))) (.node .nil (some (.int .u32 (4117890627))) .nil)) (some (.int .u32 (373468761))) (.node (.node .nil (some (.int .u32 (2494862625))) .nil) (some (.int .u32 (1463399397))) (.node .nil (some (.int .u32 (3587147933))) .nil)))) (some (.int .u32 (2893594407))) (.node (.node (.node (.node .nil (some (.int .u32 (781091935))) .nil) (some (.int .u32 (3976438427))) (.node .nil (some (.int .u32 (1878366691))) .nil)) (some (.int .u32 (2361733625))) (.node (.node .nil (some (.int .u32 (238226049))) .nil) (some (.int .u32 (3451792453))) (.node .nil (some (.int .u32 (1330124605))) .nil))) (some (.int .u32 (3156637768))) (.node (.node (.node .nil (some (.int .u32 (1053836080))) .nil) (some (.int .u32 (4250756596))) (.node .nil (some (.int .u32 (2141937292))) .nil)) (some (.int .u32 (2627466902))) (.node (.node .nil (some (.int .u32 (510512622))) .nil) (some (.int .u32 (3722505002))) (.node .nil (some (.int .u32 (1595330642))) .nil))))))))
noncomputable def tabAll (n : Nat) : Bool := Nat.rec true (fun j ih => bi (eqO (tabTr.get j) (some (.int .u32 (.ofNat (crcTab 8 j))))) ih false) n
theorem tabAll_t : ∀ (n : Nat), tabAll n = true → ∀ j, j < n → tabTr.get j = some (.int .u32 ((tabC j : Nat) : Int))
  | 0, _, j, hj => by omega
  | n + 1, h, j, hj => by
    obtain ⟨h1, h2⟩ := bi_ff (show bi (eqO (tabTr.get n) (some (.int .u32 (.ofNat (crcTab 8 n))))) (tabAll n) false = true from h)
    by_cases e : j = n
    · subst e
      have := eqO_t h1
      rw [crcTab_eq] at this
      exact this
    · exact tabAll_t n h2 j (by omega)
set_option maxRecDepth 100000 in
theorem tab_all : tabAll 256 = true := by kernel_rfl
set_option maxRecDepth 100000 in
theorem tab_only : allT tabTr (fun i _ => Nat.blt i 256) = true := by kernel_rfl
theorem tab_get {j : Nat} (hj : j < 256) : tabTr.get j = some (.int .u32 ((tabC j : Nat) : Int)) := tabAll_t 256 tab_all j hj
theorem tab_lt {j : Nat} {v : V} (h : tabTr.get j = some v) : j < 256 := blt_t (allT_t tabTr _ tab_only j v h)
theorem tabL_get {j : Nat} (hj : j < 256) : (tabL.map Wv)[j]? = some (Wv (tabC j)) := by
  unfold tabL
  rw [List.getElem?_map, List.getElem?_map, List.getElem?_range hj]; rfl
theorem tabL_lt {j : Nat} {u : Value} (h : (tabL.map Wv)[j]? = some u) : j < 256 := by
  have := lt_of_get h
  simpa [tabL] using this

abbrev SumF := List V → St → Ret
noncomputable def sumTable : SumF := fun args st => List.rec (.val (.slice st.nxt 0 256 256 1) ⟨st.heap.set st.nxt ⟨tabTr, 256, 0, 214, true⟩, Nat.succ st.nxt⟩) (fun _ _ _ => .fail) args
noncomputable def retO (x : Option Ret) : Ret := Option.rec .fail (fun r => r) x
theorem retO_val {x : Option Ret} {v : V} {st : St} (h : retO x = .val v st) : x = some (.val v st) := by
  cases x with
  | none => cases (show Ret.fail = .val v st from h)
  | some r => rw [show r = .val v st from h]
noncomputable def sumSum : SumF := fun args st => retO (bi (Nat.beq (len args) 2) (ob (lget args 0) fun t => ob (lget args 1) fun s => t.onSlice fun b o n _ _ => s.onStr fun l => ob (st.heap.get b) fun bl =>
  bi (Nat.beq o 0) (bi (Nat.beq n 256) (bi (eqTr bl.cells tabTr) (bi (Nat.ble (len l) 1000000) (some (.val (.int .u32 (.ofNat (crcF l 4294967295))) st)) none) none) none) none) none)

/-- what a summary says of a function -/
def SumsAt (P : Program) (T : Tab) (W : Base) (f : FuncId) (s : SumF) : Prop := ∀ args st v st', s args st = .val v st' → ∀ ρ w (xs : Array Value), Rel T W ρ st w → Rls ρ args xs.toList → Calls P f xs w (Ret1 T W st.nxt ρ v st')
def Sums (P : Program) (T : Tab) (f : FuncId) (s : SumF) : Prop := ∀ W, SumsAt P T W f s

theorem one_arg {ρ : Map} {a : V} {xs : Array Value} (h : Rls ρ [a] xs.toList) : ∃ x, xs = #[x] ∧ Rl ρ a x := by
  obtain ⟨l⟩ := xs
  cases h with
  | cons h t => cases t; exact ⟨_, rfl, h⟩
theorem two_args {ρ : Map} {a b : V} {xs : Array Value} (h : Rls ρ [a, b] xs.toList) : ∃ x y, xs = #[x, y] ∧ Rl ρ a x ∧ Rl ρ b y := by
  obtain ⟨l⟩ := xs
  cases h with
  | cons h t => cases t with
    | cons h' t' => cases t'; exact ⟨_, _, rfl, h, h'⟩
theorem two_of {args : List V} {a b : V} (hl : Nat.beq (len args) 2 = true) (ha : lget args 0 = some a) (hb : lget args 1 = some b) : args = [a, b] := by
  rw [len_eq] at hl
  rw [lget_eq] at ha hb
  match args, beq_t hl with
  | [x, y], _ => simp at ha hb; subst ha hb; rfl

theorem sums_table {T : Tab} : Sums Tryz.prog T 116 sumTable := by
  intro W args st v st' h ρ w xs hR hx
  cases args with
  | cons a r => cases (show Ret.fail = .val v st' from h)
  | nil =>
    cases (show Ret.val _ _ = Ret.val v st' from h)
    obtain ⟨l⟩ := xs
    cases hx
    refine (table_any w).mono fun e w' he => ?_
    obtain ⟨g, hg, rfl, hblk, hb⟩ := he
    have hR2 := hR.call hb
    have hn := hR.fresh st.nxt (Nat.le_refl _)
    have hlen : (tabL.map Wv).length = 256 := by simp [tabL]
    have hsh : w'.shape? g = some (214, 256) := by
      unfold World.shape?
      rw [show w'.heap[g]? = _ from hblk]
      simp [tabL]
    refine ⟨ρ.put st.nxt ⟨g, 0, 256⟩, Grow.put hn.1, ?_, ?_⟩
    · refine hR2.adopt (g := g) (n := 256) (bl := ⟨tabTr, 256, 0, 214, true⟩) hn.1 (glob_nxt hR) (Nat.lt_succ_self _) (Nat.le_succ _) (by show (st.heap.set st.nxt _).get st.nxt = _; rw [Tr.get_set, if_pos rfl]) (fun b' bl' hne e => ?_) (W.fresh _ _ hR.below hg) (fun b' bl' L e hL hr => ?_) hsh (Nat.le_refl _) ?_ (fun i v e => ?_)
      · have e' : (st.heap.set st.nxt _).get b' = some bl' := e
        rw [Tr.get_set, if_neg hne] at e'; exact e'
      · have := hR.lt e hL; omega
      · unfold ice
        rw [show w'.heap[g]? = _ from hblk]
      · have hi := tab_lt e
        have e2 : tabTr.get i = some v := e
        rw [tab_get hi] at e2
        cases e2
        exact ⟨hi, _, hblk.cellAt i (tabL_get hi), .int _ _⟩
    · exact .slice _ 0 256 256 1 ⟨g, 0, 256⟩ 0 256 (Map.put_same _ _ _) (.inl rfl) (Nat.le_refl _) (Nat.le_refl _) (fun _ => Nat.le_refl _)

theorem sums_sum {T : Tab} : Sums Tryz.prog T 115 sumSum := by
  intro W args st v st' h ρ w xs hR hx
  obtain ⟨h1, h2⟩ := bi_none (retO_val h)
  obtain ⟨t, h3, h4⟩ := ob_some h2
  obtain ⟨s, h5, h6⟩ := ob_some h4
  obtain ⟨b, o, n, c, es, rfl, h7⟩ := V.onSlice_some h6
  obtain ⟨l, rfl, h8⟩ := V.onStr_some h7
  obtain ⟨bl, h9, h10⟩ := ob_some h8
  obtain ⟨h11, h12⟩ := bi_none h10
  obtain ⟨h13, h14⟩ := bi_none h12
  obtain ⟨h15, h16⟩ := bi_none h14
  obtain ⟨h17, h18⟩ := bi_none h16
  cases h18
  have ho := beq_t h11
  have hn := beq_t h13
  have hle := ble_t h17
  rw [len_eq] at hle
  subst ho hn
  rw [two_of h1 h3 h5] at hx
  obtain ⟨x, y, rfl, hxr, hyr⟩ := two_args hx
  obtain ⟨L, a, c2, hL, hy, hnc, hcc, hbd, rfl⟩ := slice_inv hxr
  have hyr' : ∃ s : ByteArray, l = s.data.toList.map UInt8.toNat ∧ y = .string s := by
    generalize hv : V.str l = vv at hyr
    cases hyr <;> cases hv
    exact ⟨_, rfl, rfl⟩
  obtain ⟨s, rfl, rfl⟩ := hyr'
  have ha : a = L.d + 0 := hy.resolve_right (by omega)
  subst ha
  have hrd : Rd w w.heap.size (some ⟨L.r, L.d + 0, none⟩) (tabL.map Wv) := by
    refine .inr ⟨_, rfl, hR.lt h9 hL, fun j u hj => ?_⟩
    have hlt := tabL_lt hj
    rw [tabL_get hlt] at hj
    cases hj
    have hget : bl.cells.get j = some (.int .u32 ((tabC j : Nat) : Int)) := by rw [eqTr_t h15]; exact tab_get hlt
    obtain ⟨-, z, hz, hzr⟩ := hR.cells b bl L h9 hL j _ hget
    rw [int_inv hzr] at hz
    rw [← hz]
    congr 1
    unfold Addr.add
    split <;> simp_all
  have hsz : s.size ≤ 1000000000000000 := by
    rw [List.length_map, size_list] at hle
    omega
  refine (sum_any _ c2 s w hrd hsz).mono fun e w' he => ?_
  obtain ⟨rfl, rfl⟩ := he
  refine ⟨ρ, Grow.refl _ _, hR, ?_⟩
  rw [crcF_eq]
  exact .int _ _
end Ev
end Go.Proofs.YtodegmphcjgipaaGreatDoor
