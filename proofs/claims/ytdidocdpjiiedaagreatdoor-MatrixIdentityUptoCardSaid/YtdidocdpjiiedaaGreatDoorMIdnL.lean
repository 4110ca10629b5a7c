/-
  Plain: the identity times a matrix; transposing twice; a product turned around; no program in sight.
  Walks: matrix.each of a valid matrix of intervals.
  Walks: dyadic.Int of small naturals.
-/
import Derived.Test.YtdidocdpjiiedaaGreatDoorMHasP
import Derived.Test.YtdidocdpjiiedaaGreatDoorMInsM
import Derived.Test.YtdidocdpjiiedaaGreatDoorMMulN
import Derived.Deep.AppendLies
import Derived.Deep.RegionLaw
import Derived.Test.YtdidocdpjiiedaaGreatDoorMRoAdd
import Derived.Test.YtdidocdpjiiedaaGreatDoorMR2I
import Derived.Test.YtdidocdpjiiedaaGreatDoorMRoSq
section
namespace Go.Proofs.YtdidocdpjiiedaaGreatDoor
open Go.RowKit

theorem tab_len {Z : List (List RI)} {r c : Nat} {F : Nat → Nat → PI} (h : plM Z = tabM r c F) : Z.length = r := by
  have := congrArg List.length h; simpa [plM, tabM] using this
theorem tab_row {Z : List (List RI)} {r c : Nat} {F : Nat → Nat → PI} (h : plM Z = tabM r c F) {i : Nat} (hi : i < r) : ∃ x, Z[i]? = some x ∧ plR x = rowF c (F i) := by
  have hl := tab_len h
  have hi2 : i < Z.length := by omega
  refine ⟨_, List.getElem?_eq_getElem hi2, ?_⟩
  have := congrArg (fun l => l[i]?) h
  simpa [plM, tabM, List.getElem?_eq_getElem hi2, hi] using this
theorem tab_cell {Z : List (List RI)} {r c : Nat} {F : Nat → Nat → PI} (h : plM Z = tabM r c F) {i j : Nat} (hi : i < r) (hj : j < c) : ∃ x y, Z[i]? = some x ∧ x.length = c ∧ x[j]? = some y ∧ y.pl = F i j := by
  obtain ⟨x, hx, hp⟩ := tab_row h hi
  have hl : x.length = c := by have := congrArg List.length hp; simpa [plR, rowF] using this
  have hj2 : j < x.length := by omega
  refine ⟨x, _, hx, hl, List.getElem?_eq_getElem hj2, ?_⟩
  have := congrArg (fun l => l[j]?) hp
  simpa [plR, rowF, List.getElem?_eq_getElem hj2, hj] using this
theorem atP_tab {Z : List (List RI)} {r c : Nat} {F : Nat → Nat → PI} (h : plM Z = tabM r c F) {i j : Nat} (hi : i < r) (hj : j < c) : atP Z i j = F i j := by
  obtain ⟨x, y, hx, _, hy, hp⟩ := tab_cell h hi hj
  rw [atP_eq hx hy, hp]
theorem colsM_tab {Z : List (List RI)} {r c : Nat} {F : Nat → Nat → PI} (h : plM Z = tabM r c F) (hr : 1 ≤ r) : colsM Z = c := by
  obtain ⟨x, hx, hp⟩ := tab_row h (i := 0) (by omega)
  have hl : x.length = c := by have := congrArg List.length hp; simpa [plR, rowF] using this
  unfold colsM
  cases Z with
  | nil => simp at hx
  | cons z Z => simp at hx; subst hx; simpa using hl
theorem tabM_congr {r c : Nat} {F G : Nat → Nat → PI} (h : ∀ i j, i < r → j < c → F i j = G i j) : tabM r c F = tabM r c G := by
  unfold tabM rowF
  refine List.map_congr_left fun i hi => List.map_congr_left fun j hj => h i j (List.mem_range.1 hi) (List.mem_range.1 hj)
theorem dotF_congr {p : Nat} {f f' g g' : Nat → PI} : ∀ n, (∀ t, t ≤ n → f t = f' t ∧ g t = g' t) → dotF p f g n = dotF p f' g' n
  | 0, h => by
    show pMul _ _ p = pMul _ _ p
    rw [(h 0 (Nat.le_refl 0)).1, (h 0 (Nat.le_refl 0)).2]
  | n + 1, h => by
    show pAdd _ _ p = pAdd _ _ p
    rw [dotF_congr n fun t ht => h t (by omega), (h (n + 1) (Nat.le_refl _)).1, (h (n + 1) (Nat.le_refl _)).2]
theorem idn_mul {m I : List (List RI)} {p : Nat} (vm : vlM m = true) (vI : vlM I = true) (h8 : 8 ≤ p) (hp : p ≤ 512) (hI : plM I = tabM m.length m.length idP) :
    mulC I m p = (tabM m.length (colsM m) (fun i j => dotF p (idP i) (fun t => atP m t j) (m.length - 1)), 0) := by
  have hml := (vlM_iff.1 vm).1
  have hl := tab_len hI
  have hc := colsM_tab hI hml.1
  unfold mulC
  rw [vI, vm, preB_iff.2 ⟨by omega, by omega⟩, if_neg (by decide), if_neg (by decide), if_neg (by omega)]
  unfold mulF
  rw [hl, hc]
  refine congrArg (fun x => (x, (0 : Int))) (tabM_congr fun i j hi hj => ?_)
  show dotF p _ _ _ = _
  exact dotF_congr _ fun t ht => ⟨atP_tab hI hi (by omega), rfl⟩
theorem idn_ins {m M : List (List RI)} {p : Nat} (vm : vlM m = true) (om : ∀ i j, (atP m i j).ok) (h8 : 8 ≤ p) (hp : p ≤ 512) (hM : plM M = tabM m.length (colsM m) (fun i j => dotF p (idP i) (fun t => atP m t j) (m.length - 1))) : insXM m M = true :=
  insXM_tab (plM_of vm) hM fun i j hi hj => idn_in (g := fun t => atP m t j) h8 hp (fun t => om t j) (by omega)
theorem idn_eq {m M : List (List RI)} {p : Nat} (vm : vlM m = true) (om : ∀ i j, (atP m i j).ok) (h8 : 8 ≤ p) (hp : p ≤ 512) (hM : plM M = tabM m.length (colsM m) (fun i j => dotF p (idP i) (fun t => atP m t j) (m.length - 1)))
    (hf : ∀ i j, i < m.length → j < colsM m → fewP p (atP m i j)) : plM M = plM m := by
  rw [hM, plM_of vm]
  refine tabM_congr fun i j hi hj => ?_
  rw [idn_few (g := fun t => atP m t j) h8 hp (fun t => om t j) (m.length - 1) (fun t ht => hf t j (by omega) hj) (m.length - 1) (Nat.le_refl _), if_pos (by omega)]
theorem trn_two {m T U : List (List RI)} (vm : vlM m = true) (hT : plM T = tabM (colsM m) m.length (fun j i => atP m i j)) (hU : plM U = tabM (colsM T) T.length (fun j i => atP T i j)) : plM U = plM m := by
  have hmc := (vlM_iff.1 vm).2.1
  rw [hU, plM_of vm, tab_len hT, colsM_tab hT hmc.1]
  exact tabM_congr fun i j hi hj => atP_tab hT hj hi
theorem turn_code {a b S T : List (List RI)} {p : Nat} (va : vlM a = true) (vb : vlM b = true) (vS : vlM S = true) (vT : vlM T = true) (h8 : 8 ≤ p) (hp : p ≤ 512)
    (hS : plM S = tabM (colsM b) b.length (fun j i => atP b i j)) (hT : plM T = tabM (colsM a) a.length (fun j i => atP a i j)) :
    (mulC S T p).2 = (mulC a b p).2 ∧ ((mulC a b p).2 = 0 → ∀ (X V : List (List RI)), plM X = (mulC a b p).1 → plM V = tabM (colsM X) X.length (fun j i => atP X i j) → plM V = (mulC S T p).1) := by
  have hal := (vlM_iff.1 va).1
  have hbl := (vlM_iff.1 vb).1
  have hac := (vlM_iff.1 va).2.1
  have hbc := (vlM_iff.1 vb).2.1
  have e1 := tab_len hS
  have e2 := colsM_tab hS hbc.1
  have e3 := tab_len hT
  have e4 := colsM_tab hT hac.1
  have hpre : preB (p : Int) = true := preB_iff.2 ⟨by omega, by omega⟩
  unfold mulC
  rw [va, vb, vS, vT, hpre, e2, e3]
  by_cases hs : colsM a = b.length
  · rw [if_neg (by decide), if_neg (by decide), if_neg (by omega), if_neg (by decide), if_neg (by decide), if_neg (by omega)]
    refine ⟨rfl, fun _ X V hX hV => ?_⟩
    have hX2 : plM X = tabM a.length (colsM b) (fun i j => dotF p (atP a i) (fun t => atP b t j) (colsM a - 1)) := hX
    rw [hV, tab_len hX2, colsM_tab hX2 hal.1]
    show _ = mulF S T p
    unfold mulF
    rw [e1, e2, e4]
    refine tabM_congr fun j i hj hi => ?_
    rw [atP_tab hX2 hi hj, dotF_comm h8 hp, hs]
    exact dotF_congr _ fun t ht => ⟨(atP_tab hS hj (by omega)).symm, (atP_tab hT (by omega) hi).symm⟩
  · rw [if_neg (by decide), if_neg (by decide), if_pos (by omega), if_neg (by decide), if_neg (by decide), if_pos (by omega)]
    exact ⟨rfl, fun h => by cases h⟩
end Go.Proofs.YtdidocdpjiiedaaGreatDoor
end

section
namespace Go.Proofs.YtdidocdpjiiedaaGreatDoor
open Go.RowKit

/-- a matrix of these numbers -/
def MatV (w : World) (X : List (List PI)) (e : Ending) (w' : World) : Prop :=
  ∃ (a : Option Addr) (Z : List (List RI)) (c : Nat), e = .returned (.slice a Z.length c) ∧ RowM w' a Z ∧ plM Z = X ∧ okM Z ∧ Z.length ≤ 1100000 ∧ Kp w w'
/-- the function g with the captured values cap answers, for the element in row i, column j of m, an interval of the numbers F i j -/
def FunE (P : Program) (g : FuncId) (cap : Array Value) (w : World) (m : List (List RI)) (F : Nat → Nat → PI) : Prop :=
  Enters P g ∧ ∀ (i j : Nat) (r : List RI) (x : RI), m[i]? = some r → r[j]? = some x → ∀ w1, Kp w w1 → x.rd w1 → Calls P g (#[.int .i64 (i : Int), .int .i64 (j : Int), .agg #[.bool x.lo.neg, .slice x.lo.a x.lo.xs.length x.lo.c, .int .i64 x.lo.e, .bool x.hi.neg, .slice x.hi.a x.hi.xs.length x.hi.c, .int .i64 x.hi.e, .bool x.all]] ++ cap) w1 (IvOut w1 (F i j))
set_option maxRecDepth 100000 in
set_option maxHeartbeats 8000000 in
theorem each_any (a : Option Addr) (m : List (List RI)) (c : Nat) (g : FuncId) (cap : Array Value) (F : Nat → Nat → PI) (w : World) (hm : RowM w a m) (hvm : vlM m = true) (hF : FunE Tryz.prog g cap w m F) :
    Calls Tryz.prog 101 #[.slice a m.length c, .func (.func g) #[] cap] w (MatV w (tabM m.length (colsM m) F)) := by
  have hgo : ∀ args w, (callFunc g args).run Tryz.prog w = .ok (.enter g args) w := hF.1
  have HFN := Lib.hid hF.2
  have HM := Lib.hid hm
  have HVM := Lib.hid hvm
  have hml := (vlM_iff.1 hvm).1
  have hmc := (vlM_iff.1 hvm).2.1
  have hm8 : m.length ≤ 8 := hml.2
  have hmk := make_rows (m.length : Int) m.length rfl (by omega)
  obtain ⟨r0, hr0, hc0⟩ := vlM_row0 hvm
  obtain ⟨ba, oa, _, _, rfl, _⟩ := hm 0 r0 hr0
  have HML := Lib.hid (And.intro hml hmc)
  clear hF hm hvm hml hmc hr0 hc0
  go_enter Tryz.func101, Tryz.ntmps101
  go_wp2_with fail
  have hO := OutH.made w m.length
  generalize hW1 : w.alloc _ = W1 at *
  have HO := Lib.hid hO
  clear hW1 hmk hO
  go_loopg [15] m.length (fun q v wr => ∃ R : List (List RI), R.length + q = m.length ∧ v = .int .i64 (R.length : Int) ∧ OutH w wr w.heap.size m.length R ∧ plM R = tabM R.length (colsM m) F ∧ okM R)
  case atStart => exact ⟨[], by simp, rfl, HO.out, rfl, fun r h => by simp at h⟩
  case round =>
    obtain ⟨R, hRq, rfl, hO, hpl, hok⟩ := hrel
    clear HO
    have HH := Lib.hid (And.intro hpl hok)
    have HOH := Lib.hid hO
    have hkr := hO.2.1
    clear hpl hok hO
    by_cases hlt : R.length < m.length
    · obtain ⟨r, hr⟩ : ∃ r, m[R.length]? = some r := ⟨_, List.getElem?_eq_getElem hlt⟩
      obtain ⟨b2, o2, ra2, rc2, e2, hrc, hrow, hrl⟩ := HM.out R.length r hr
      cases e2
      have hrc1 := hkr.cell hrc
      have HRW := Lib.hid (And.intro hr (And.intro hrow (vlM_row HVM.out hr)))
      have HMO := Lib.hid (HOH.out.open hlt)
      have Hlt := Lib.hid (And.intro hlt hRq)
      have hr8 : r.length ≤ 8 := by have := (vlM_row HVM.out hr).1; have := HML.out.2; omega
      clear hr hrc hrow hrl hRq
      have hk1 : (0 : Int) ≤ (R.length : Int) := by omega
      have hk2 : (R.length : Int) < (m.length : Int) := by omega
      go_wp2_with fail
      clear HOH hrc1
      obtain ⟨gk1, hgk1⟩ : ∃ x : Nat, x = gk := ⟨_, rfl⟩
      subst hgk1
      obtain ⟨wr1, hwr1⟩ : ∃ x : World, x = wr := ⟨_, rfl⟩
      subst hwr1
      go_loopg [22] r.length (fun q v wr => ∃ (u : Value) (cur : List RI), cur.length + q = r.length ∧ v = .int .i64 (cur.length : Int) ∧ OutM w wr w.heap.size m.length R u cur ∧ plR cur = rowF cur.length (F R.length) ∧ ∀ x ∈ cur, x.vl = true)
      case atStart => exact ⟨_, [], by simp, rfl, HMO.out, rfl, fun x h => by simp at h⟩
      case round =>
        obtain ⟨u, cur, hcq, rfl, hM, hpc, hvc⟩ := hrel
        clear HMO
        by_cases hlt2 : cur.length < r.length
        · obtain ⟨x, hx⟩ : ∃ x, r[cur.length]? = some x := ⟨_, List.getElem?_eq_getElem hlt2⟩
          obtain ⟨b3, o3, e3, hrd, s0, s1, s2, s3, s4, s5, s6⟩ := (HRW.out.2.1.kp hM.2.1.1) cur.length x hx
          subst e3
          have HPC := Lib.hid (And.intro hpc (And.intro hvc (And.intro hcq hlt2)))
          have hj1 : (0 : Int) ≤ (cur.length : Int) := by omega
          have hj2 : (cur.length : Int) < (r.length : Int) := by omega
          have kA := (Kp.refl wr).alloc (.cells #[.bool x.lo.neg, .slice x.lo.a x.lo.xs.length x.lo.c, .int .i64 x.lo.e, .bool x.hi.neg, .slice x.hi.a x.hi.xs.length x.hi.c, .int .i64 x.hi.e, .bool x.all] 43)
          have HX := Lib.hid (And.intro hx (hrd.kp kA))
          have hM3 := hM.kp kA
          clear hpc hvc hcq hx hrd hM
          go_upto_region 8 with fail
          clear s0 s1 s2 s3 s4 s5 s6
          generalize hW3 : wr.alloc _ = W3 at *
          have hxb : W3.cell? ⟨wr.heap.size, 0, none⟩ = some (.bool x.lo.neg) ∧ W3.cell? ⟨wr.heap.size, 1, none⟩ = some (.slice x.lo.a x.lo.xs.length x.lo.c) ∧ W3.cell? ⟨wr.heap.size, 2, none⟩ = some (.int .i64 x.lo.e) ∧ W3.cell? ⟨wr.heap.size, 3, none⟩ = some (.bool x.hi.neg) ∧ W3.cell? ⟨wr.heap.size, 4, none⟩ = some (.slice x.hi.a x.hi.xs.length x.hi.c) ∧ W3.cell? ⟨wr.heap.size, 5, none⟩ = some (.int .i64 x.hi.e) ∧ W3.cell? ⟨wr.heap.size, 6, none⟩ = some (.bool x.all) := by rw [← hW3]; simp
          clear hW3 kA
          have kd := (Kp.refl W3).drew
          have hk3' := hM3.2.1.1
          obtain ⟨hc1, hf1⟩ := hM3.cellF
          have HM3 := Lib.hid hM3
          have HCF := Lib.hid (HFN.out R.length cur.length r x HRW.out.1 HX.out.1 W3.drew (hk3'.trans kd) (HX.out.2.kp kd))
          have HD3 := Lib.hid kd
          have hcl : cur.length + 1 ≤ 9000000 := by omega
          obtain ⟨s0, s1, s2, s3, s4, s5, s6⟩ := id hxb
          clear hM3 hk3' kd
          go_region_law (first
            | (go_simp; (with_reducible refine HCF.out.mono ?_); rintro e v1 ⟨z, rfl, hz, hzp, hzv, j1⟩
               have kZ := (HD3.out.trans j1).alloc (.cells #[.bool z.lo.neg, .slice z.lo.a z.lo.xs.length z.lo.c, .int .i64 z.lo.e, .bool z.hi.neg, .slice z.hi.a z.hi.xs.length z.hi.c, .int .i64 z.hi.e, .bool z.all] 43)
               have hM4 := HM3.out.kp (HD3.out.trans j1)
               obtain ⟨hc1, hf1⟩ := hM4.cellF
               have hM5 := HM3.out.kp kZ
               obtain ⟨hc1, hf1⟩ := hM5.cellF
               have hown := hM5.2.1
               have hzA := hz.kp ((Kp.refl v1).alloc (.cells #[.bool z.lo.neg, .slice z.lo.a z.lo.xs.length z.lo.c, .int .i64 z.lo.e, .bool z.hi.neg, .slice z.hi.a z.hi.xs.length z.hi.c, .int .i64 z.hi.e, .bool z.all] 43))
               have ZP := Lib.hid (And.intro hzp hzv)
               have HM5 := Lib.hid hM5
               clear hz hzp hzv kZ hM5 hM4)
            | (refine step_append_ivg (by rfl) _ _ (by rfl) w u cur (by rfl) hown _ _ (by rfl) z hzA (by simp) hcl ?_; intro a' c' w9 hown9 hgrow hblk
               obtain ⟨hc1, hf1⟩ := HM5.out.cellG hgrow)
            | fail)
          all_goals
            have hst := OutM.step HM5.out hown9 hgrow hblk HM5.out.2.1.noU
            go_wp2_with fail
            go_roundg (gk - 1)
            case measure => have := HPC.out.2.2; omega
            case rel =>
              refine ⟨_, cur ++ [z], by have := HPC.out.2.2; rw [List.length_append, List.length_singleton]; omega, by rw [List.length_append, List.length_singleton]; go_num, hst, ?_, ok_snoc HPC.out.2.1 ZP.out.2⟩
              rw [plR_snoc, HPC.out.1, List.length_append, List.length_singleton, rowF_snoc, ZP.out.1]
        · have hce : cur.length = r.length := by omega
          have hcl : cur.length ≤ 1100000 := by omega
          have hcc := Lib.hid (hM.close hcl)
          have HPC := Lib.hid (And.intro hpc (And.intro hvc hce))
          clear hpc hvc hcq hM hce hcl
          go_wp2_with fail
          go_roundg (gk1 - 1)
          case measure => have := Hlt.out; omega
          case rel =>
            refine ⟨R ++ [cur], by have := Hlt.out; rw [List.length_append, List.length_singleton]; omega, by rw [List.length_append, List.length_singleton]; go_num, hcc.out, ?_, okM_snoc HH.out.2 HPC.out.2.1⟩
            rw [plM_snoc, HH.out.1, List.length_append, List.length_singleton, tabM_snoc, HPC.out.1, HPC.out.2.2, HRW.out.2.2.1]
    · have hRe : R.length = m.length := by omega
      have HRe := Lib.hid hRe
      clear hRe hRq
      go_wp2_with fail
      go_ret
      refine ⟨some ⟨w.heap.size, 0, none⟩, R, m.length, by rw [HRe.out]; rfl, HOH.out.rowM, ?_, HH.out.2, by have := HML.out; have := HRe.out; omega, hkr⟩
      rw [HH.out.1, HRe.out]
end Go.Proofs.YtdidocdpjiiedaaGreatDoor
end

section
namespace Go.Proofs.YtdidocdpjiiedaaGreatDoor
open Go.RowKit

set_option maxRecDepth 100000 in
set_option maxHeartbeats 2000000 in
theorem pInt_any (n : Nat) (w : World) (hn : n ≤ 9000000) (hT : Tab w) :
    Calls Tryz.prog 98 #[.int .i64 n] w (DyOut w (canon false n 0)) := by
  have hB := Box3.new w (.bool false) (.slice none 0 0) (.int .i64 0) 28
  have k0 := (Kp.refl w).alloc (.cells #[.bool false, .slice none 0 0, .int .i64 0] 28)
  have hneg : decide ((n : Int) < 0) = false := decide_eq_false (by omega)
  have h1 : (n : Int) % 18446744073709551616 = n := by omega
  have h2 : (n : Int) % 4294967296 = n := by omega
  have h3 : (n : Int) / 4294967296 = 0 := by omega
  have hT1 := Lib.hid (hT.kp k0)
  have hR := rd_pair (w.alloc (.cells #[.bool false, .slice none 0 0, .int .i64 0] 28)) n 0 (by omega) (by decide) n 0 rfl rfl
  rw [World.size_alloc] at hR
  have hO := Lib.hid (canonical_any false _ [n, 0] 2 0 _ hR (by simp) (by unfold maxLen; omega) (by simp) (by decide) (by decide) (hT1.out.kp ((Kp.refl _).alloc _)))
  clear hR
  go_enter Tryz.func98, Tryz.ntmps98
  go_wp2_with fail
  refine hO.out.mono ?_
  rintro e w3 ⟨a3, c3, rfl, r3, l3, m3, k3⟩
  have hkb := ((Kp.refl _).alloc _).trans k3
  obtain ⟨q0, q1, q2, f0, f1, f2⟩ := hB.kp hkb
  have hk2 := k0.trans hkb
  rw [show val [n, 0] = n from by simp [val]] at r3 l3 ⊢
  generalize canon false n 0 = D at *
  have hst := stored q0 q1 q2 (fun _ h => by cases h) (fun _ h => by cases h) (fun _ h => by cases h) (.bool D.neg) (.slice a3 (limbs D.m).length c3) (.int .i64 D.e)
  go_wp2_with fail
  generalize (((w3.setCell _ _).setCell _ _).setCell _ _) = W at hst ⊢
  obtain ⟨s0, s1, s2, _, s4, s5, _, _⟩ := hst
  refine bodyPost_ret (v := .agg #[.bool D.neg, .slice a3 (limbs D.m).length c3, .int .i64 D.e]) (by simp [results, Tryz.results98, go_sem, s0, s1, s2]) rfl ?_
  exact ⟨a3, c3, rfl, s4 _ _ r3, l3, m3, s5 _ hk2 (by omega)⟩
theorem intD_nat (n : Nat) : intD (n : Int) = canon false n 0 := by unfold intD; rw [decide_eq_false (by omega)]; rfl
theorem pIntR_any (n : Nat) (w : World) (hn : n ≤ 1) (hT : Tab w) :
    Calls Tryz.prog 98 #[.int .i64 n] w fun e w' => ∃ y : RD, e = .returned (.agg #[.bool y.neg, .slice y.a y.xs.length y.c, .int .i64 y.e]) ∧ y.ok w' ∧ y.dy = intD n ∧ Kp w w' := by
  refine (pInt_any n w (by omega) hT).mono ?_
  rintro e w' ⟨a, c, rfl, r, l, m, k⟩
  have hd : (intD (n : Int)).ok := (intD_isP (p := 10) (by decide) (by decide) (by omega)).1
  rw [← intD_nat] at r l ⊢
  exact ⟨rdOf (intD n) a c, rfl, ⟨rdOf_rd hd r l m, rdOf_vl hd _ _⟩, rdOf_dy _ _ _, k⟩
end Go.Proofs.YtdidocdpjiiedaaGreatDoor
end
