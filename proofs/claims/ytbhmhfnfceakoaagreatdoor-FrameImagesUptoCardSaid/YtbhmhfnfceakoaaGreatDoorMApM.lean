/-
  Walks: matrix.Apply.
-/
import Derived.Deep.LoopGhost
import Derived.Deep.DeepFit
import Derived.Test.YtbhmhfnfceakoaaGreatDoorMMulN
import Derived.Test.YtbhmhfnfceakoaaGreatDoorMIdxN
import Derived.Test.YtbhmhfnfceakoaaGreatDoorMIvA
import Derived.Test.YtbhmhfnfceakoaaGreatDoorMRoAdd
import Derived.Test.YtbhmhfnfceakoaaGreatDoorMOwnM
import Derived.Test.YtbhmhfnfceakoaaGreatDoorMIvMl
import Derived.Test.YtbhmhfnfceakoaaGreatDoorMR2J
import Derived.Test.YtbhmhfnfceakoaaGreatDoorMSumH
import Derived.Deep.RegionHeld3
import Derived.Test.YtbhmhfnfceakoaaGreatDoorMEchM
import Derived.Test.YtbhmhfnfceakoaaGreatDoorMNrmP
namespace Go.Proofs.YtbhmhfnfceakoaaGreatDoor
open Go.RowKit
def RowE (w : World) (X : List PI) (f : Int) (e : Ending) (w' : World) : Prop :=
  ∃ (a : Option Addr) (Z : List RI) (c : Nat), e = .returned (.tuple #[.slice a Z.length c, .int .i64 f]) ∧ RowI w' a Z ∧ plR Z = X ∧ (∀ x ∈ Z, x.vl = true) ∧ Z.length ≤ 1100000 ∧ Kp w w'
theorem rowE_nil {w w' : World} {f : Int} {e : Ending} (h : e = .returned (.tuple #[.slice none 0 0, .int .i64 f])) (k : Kp w w') : RowE w [] f e w' := ⟨none, [], 0, h, fun i x h => by simp at h, rfl, fun x h => by simp at h, by simp, k⟩
def applyC (m : List (List RI)) (x : List RI) (p : Int) : List PI × Int :=
  if vlM m = false then ([], 1) else if (x.any fun y => !y.vl) = true then ([], 1) else if preB p = false then ([], 2) else if colsM m ≠ x.length then ([], 3) else (rowF m.length fun i => dotF p.toNat (atP m i) (rowG x) (colsM m - 1), 0)
theorem any_vl {x : List RI} (h : (x.any fun y => !y.vl) = false) : ∀ y ∈ x, y.vl = true := fun y hy => by
  have := List.any_eq_false.1 h y hy
  simpa using this
set_option maxHeartbeats 4000000 in
theorem ap1_any (x : RI) (w : World) (hx : x.rd w) :
    Calls Tryz.prog 152 #[.agg #[.bool x.lo.neg, .slice x.lo.a x.lo.xs.length x.lo.c, .int .i64 x.lo.e, .bool x.hi.neg, .slice x.hi.a x.hi.xs.length x.hi.c, .int .i64 x.hi.e, .bool x.all]] w fun e w' => e = .returned (.bool (!x.vl)) ∧ Kp w w' := by
  have k1 := (Kp.refl w).alloc (.cells #[.bool x.lo.neg, .slice x.lo.a x.lo.xs.length x.lo.c, .int .i64 x.lo.e, .bool x.hi.neg, .slice x.hi.a x.hi.xs.length x.hi.c, .int .i64 x.hi.e, .bool x.all] 44)
  have HX := Lib.hid (hx.kp k1)
  clear hx
  go_enter Tryz.func152, Tryz.ntmps152
  go_upto_region 1 with fail
  generalize hW : w.alloc _ = W at *
  obtain ⟨s0, s1, s2, s3, s4, s5, s6⟩ : W.cell? ⟨w.heap.size, 0, none⟩ = some (.bool x.lo.neg) ∧ W.cell? ⟨w.heap.size, 1, none⟩ = some (.slice x.lo.a x.lo.xs.length x.lo.c) ∧ W.cell? ⟨w.heap.size, 2, none⟩ = some (.int .i64 x.lo.e) ∧ W.cell? ⟨w.heap.size, 3, none⟩ = some (.bool x.hi.neg) ∧ W.cell? ⟨w.heap.size, 4, none⟩ = some (.slice x.hi.a x.hi.xs.length x.hi.c) ∧ W.cell? ⟨w.heap.size, 5, none⟩ = some (.int .i64 x.hi.e) ∧ W.cell? ⟨w.heap.size, 6, none⟩ = some (.bool x.all) := by rw [← hW]; simp
  clear hW
  go_wp2_with fail
  go_fit (IValid_raw x _ HX.out)
  rintro e w1 ⟨rfl, k2⟩
  go_wp2_with fail
  go_ret
  exact ⟨rfl, k1.trans k2⟩
set_option maxHeartbeats 4000000 in
theorem ap2_any (x : List RI) (a : Option Addr) (c k bb : Nat) (w : World) (hx : RowI w a x) (hv : ∀ y ∈ x, y.vl = true) (_hl : x.length ≤ 8) (hb : w.cell? ⟨bb, 0, none⟩ = some (.slice a x.length c)) (hk : k < x.length) :
    Calls Tryz.prog 153 #[.int .i64 (k : Int), .pointer (some ⟨bb, 0, none⟩)] w (IvOut w (rowG x k)) := by
  obtain ⟨y, hy⟩ : ∃ y, x[k]? = some y := ⟨_, List.getElem?_eq_getElem hk⟩
  have HX := Lib.hid (And.intro (rowG_eq hy) (hv y (List.mem_of_getElem? hy)))
  obtain ⟨b3, o3, rfl, hrd, hS⟩ := hx k y hy
  have k1 := (Kp.refl w).alloc (.cells #[.bool false, .slice none 0 0, .int .i64 0, .bool false, .slice none 0 0, .int .i64 0, .bool false] 44)
  have hi1 : (0 : Int) ≤ (k : Int) := by omega
  have hi2 : (k : Int) < (x.length : Int) := by omega
  have HR := Lib.hid (hrd.kp k1)
  have hb1 := k1.cell hb
  have hS1 := keep7 k1 hS
  have hV := Var7.new w 44
  clear hx hv hy hb hS hrd
  go_enter Tryz.func153, Tryz.ntmps153
  go_upto_region 1 with fail
  generalize w.alloc _ = W at *
  obtain ⟨⟨q0, q1, q2, q3, q4, q5, q6⟩, f0, f1, f2, f3, f4, f5, f6⟩ := id hV
  obtain ⟨s0, s1, s2, s3, s4, s5, s6⟩ := hS1
  go_wp2_with fail
  generalize hW9 : ((((((W.setCell _ _).setCell _ _).setCell _ _).setCell _ _).setCell _ _).setCell _ _).setCell _ _ = W9
  obtain ⟨⟨s0, s1, s2, s3, s4, s5, s6⟩, hU⟩ := stored7 (show Box7 W _ _ _ _ _ _ _ _ from ⟨q0, q1, q2, q3, q4, q5, q6⟩) (fun _ h => by cases h) (fun _ h => by cases h) (fun _ h => by cases h) (fun _ h => by cases h) (fun _ h => by cases h) (fun _ h => by cases h) (fun _ h => by cases h) _ _ _ _ _ _ _ hW9
  clear hW9 q0 q1 q2 q3 q4 q5 q6 f0 f1 f2 f3 f4 f5 f6
  refine bodyPost_ret (v := .agg #[.bool y.lo.neg, .slice y.lo.a y.lo.xs.length y.lo.c, .int .i64 y.lo.e, .bool y.hi.neg, .slice y.hi.a y.hi.xs.length y.hi.c, .int .i64 y.hi.e, .bool y.all]) (by simp [results, Tryz.results153, go_sem, s0, s1, s2, s3, s4, s5, s6]) rfl ?_
  exact ⟨y, rfl, hU.rdI HR.out, HX.out.1.symm, HX.out.2, hU.2.2.1 _ k1 (by omega)⟩
set_option maxRecDepth 100000 in
set_option maxHeartbeats 8000000 in
theorem mapply_any (a b : Option Addr) (m : List (List RI)) (x : List RI) (c d : Nat) (p : Int) (w : World) (hm : RowM w a m) (hx : RowI w b x) (hl : m.length ≤ 1100000) (hl2 : x.length ≤ 1100000) (hT : Tab w) :
    Calls Tryz.prog 79 #[.slice a m.length c, .slice b x.length d, .int .i64 p] w (RowE w (applyC m x p).1 (applyC m x p).2) := by
  have HM := Lib.hid hm
  have HN := Lib.hid hx
  have HT := Lib.hid hT
  obtain ⟨D, hD⟩ : ∃ D, D = applyC m x p := ⟨_, rfl⟩
  have HD := Lib.hid hD
  rw [← hD]
  clear hm hx hT hD
  go_enter Tryz.func79, Tryz.ntmps79
  go_wp2_with fail
  generalize hW : w.alloc _ = W at *
  have hk : Kp w W := hW ▸ (Kp.refl w).alloc _
  have hbox : W.cell? ⟨w.heap.size, 0, none⟩ = some (.slice b x.length d) := by rw [← hW]; simp
  clear hW
  go_fit (mvalid_any a m c _ (HM.out.kp hk) hl)
  rintro e w1 ⟨rfl, k1⟩
  have hk1 := hk.trans k1
  have hbox1 := k1.cell hbox
  clear hk hbox k1
  cases hvm : vlM m with
  | false =>
    have HE := Lib.hid (show D = ([], 1) by rw [HD.out]; unfold applyC; rw [if_pos hvm])
    clear hvm
    go_wp2_with fail
    rw [HE.out]
    refine bodyPost_ret (v := .tuple #[.slice none 0 0, .int .i64 1]) (by simp [results, Tryz.results79, go_sem]) rfl ?_
    exact rowE_nil rfl hk1
  | true =>
  have HVM := Lib.hid hvm
  clear hvm
  go_wp2_with fail
  go_fit (containsI b x d 152 #[] _ (fun y => !y.vl) hl2 (HN.out.kp hk1) ⟨fun _ _ => by kernel_rfl, fun y hy w1 k => ap1_any y w1 (((HN.out.kp hk1).kp k).rdI hy)⟩)
  rintro e w2 ⟨rfl, k2⟩
  have hk2 := hk1.trans k2
  have hbox2 := k2.cell hbox1
  clear hk1 hbox1 k2
  cases hvx : x.any fun y => !y.vl with
  | true =>
    have HE := Lib.hid (show D = ([], 1) by rw [HD.out]; unfold applyC; rw [HVM.out, hvx]; rfl)
    clear hvx
    go_wp2_with fail
    rw [HE.out]
    refine bodyPost_ret (v := .tuple #[.slice none 0 0, .int .i64 1]) (by simp [results, Tryz.results79, go_sem]) rfl ?_
    exact rowE_nil rfl hk2
  | false =>
  have HVX := Lib.hid hvx
  clear hvx
  go_wp2_with fail
  go_fit (mprecise_any p _)
  rintro e w3 ⟨rfl, rfl⟩
  cases hp : preB p with
  | false =>
    have HE := Lib.hid (show D = ([], 2) by rw [HD.out]; unfold applyC; rw [HVM.out, HVX.out, hp]; rfl)
    clear hp
    go_wp2_with fail
    rw [HE.out]
    refine bodyPost_ret (v := .tuple #[.slice none 0 0, .int .i64 2]) (by simp [results, Tryz.results79, go_sem]) rfl ?_
    exact rowE_nil rfl hk2
  | true =>
  have HP := Lib.hid hp
  clear hp
  obtain ⟨r0, hr0, hc0⟩ := vlM_row0 HVM.out
  have hml := (vlM_iff.1 HVM.out).1
  have hmc := (vlM_iff.1 HVM.out).2.1
  obtain ⟨ba, oa, ra, rc, rfl, hrow, _⟩ := HM.out 0 r0 hr0
  rw [Nat.add_zero] at hrow
  have hi1 : (0 : Int) < (m.length : Int) := by omega
  have HC0 := Lib.hid hc0
  have kd := (Kp.refl w2).drew
  have hbr := (hk2.trans kd).cell hrow
  have hbb := kd.cell hbox2
  replace hk2 := hk2.trans kd
  have hlr : r0.length ≤ 8 := by omega
  have HML := Lib.hid (And.intro hml hmc)
  clear hr0 hrow hc0 kd hbox2 hml hmc
  go_upto_region 5 with fail
  go_region
  generalize w2.drew = W0 at *
  by_cases hne : r0.length = x.length
  rotate_left
  · have hne1 : ((r0.length : Int) != (x.length : Int)) = true := by simpa using (by omega : ¬ (r0.length : Int) = (x.length : Int))
    have HE := Lib.hid (show D = ([], 3) by
      rw [HD.out]; unfold applyC
      rw [HVM.out, HVX.out, HP.out, if_neg (by decide), if_neg (by decide), if_neg (by decide), if_pos (by have := HC0.out; omega)])
    clear hne
    go_wp2_with fail
    rw [hne1]
    go_wp2_with fail
    rw [HE.out]
    refine bodyPost_ret (v := .tuple #[.slice none 0 0, .int .i64 3]) (by simp [results, Tryz.results79, go_sem]) rfl ?_
    exact rowE_nil rfl hk2
  have hne1 : ((r0.length : Int) != (x.length : Int)) = false := by rw [hne]; simp
  obtain ⟨q, hq⟩ : ∃ q : Nat, q = p.toNat := ⟨_, rfl⟩
  have hpq : p = (q : Int) := by
    have := preB_iff.1 HP.out
    omega
  have hq0 : 8 ≤ q := by have := preB_iff.1 HP.out; omega
  have hq1 : q ≤ 512 := by have := preB_iff.1 HP.out; omega
  obtain ⟨F, hF⟩ : ∃ F : Nat → PI, F = fun i => dotF q (atP m i) (rowG x) (colsM m - 1) := ⟨_, rfl⟩
  have HDm := Lib.hid (show D = (rowF m.length F, 0) by
    rw [HD.out]; unfold applyC
    rw [HVM.out, HVX.out, HP.out, if_neg (by decide), if_neg (by decide), if_neg (by decide), if_neg (by have := HC0.out; omega), hF, hq])
  have HNE := Lib.hid hne
  have HF := Lib.hid hF
  rw [hpq]
  have HQ := Lib.hid hq
  have HK2 := Lib.hid hk2
  have HB := Lib.hid hbb
  have hxl : x.length ≤ 8 := by omega
  clear hne hq hpq hF hk2
  go_wp2_with fail
  rw [hne1]
  clear hne1 hbr hbb
  go_wp2_with fail
  go_loopg [8, 33] m.length (fun z v t wr => ∃ cur : List RI, cur.length + z = m.length ∧ t = .int .i64 (cur.length : Int) ∧ OwnN W0 wr v cur ∧ plR cur = rowF cur.length F ∧ ∀ x ∈ cur, x.vl = true)
  case atStart => exact ⟨[], by simp, rfl, OwnN.nil (Kp.refl _), rfl, fun x h => by simp at h⟩
  case round =>
  obtain ⟨cur, hcq, rfl, hown0, hpc, hvc⟩ := hrel
  have hk9 := hown0.1
  by_cases hlt : cur.length < m.length
  rotate_left
  · have hRe : cur.length = m.length := by omega
    obtain ⟨va, vc, rfl, hvc1, hvc2, hrm⟩ := hown0.value
    have HRe := Lib.hid (And.intro hRe (And.intro hrm (And.intro hpc hvc)))
    have HML8 := Lib.hid (show cur.length ≤ 1100000 by have := HML.out; omega)
    have HK9 := Lib.hid (HK2.out.trans hk9)
    clear hRe hcq hrm hpc hvc hown0 hk9
    go_wp2_with fail
    rw [HDm.out]
    refine bodyPost_ret (v := .tuple #[.slice va cur.length vc, .int .i64 0]) (by simp [results, Tryz.results79, go_sem]) rfl ?_
    refine ⟨va, cur, vc, rfl, HRe.out.2.1, ?_, HRe.out.2.2.2, HML8.out, HK9.out⟩
    rw [HRe.out.2.2.1, HRe.out.1]
  obtain ⟨r, hr⟩ : ∃ r, m[cur.length]? = some r := ⟨_, List.getElem?_eq_getElem hlt⟩
  obtain ⟨b2, o2, ra2, rc2, e2, hrc, hrow, hrl⟩ := HM.out cur.length r hr
  cases e2
  have hrcr := (HK2.out.trans hk9).cell hrc
  have HRW := Lib.hid (And.intro (hrow.kp (HK2.out.trans hk9)) (vlM_row HVM.out hr))
  have HG := Lib.hid (show rowG r = atP m cur.length by rw [← rowG_at, List.getD_eq_getElem?_getD, hr]; rfl)
  have HPC := Lib.hid (And.intro hpc (And.intro hvc (And.intro hcq hlt)))
  have hk1 : (0 : Int) ≤ (cur.length : Int) := by omega
  have hk2 : (cur.length : Int) < (m.length : Int) := by omega
  have hcl : cur.length + 1 ≤ 9000000 := by omega
  have HOW := Lib.hid hown0
  have HK9 := Lib.hid hk9
  have HAT := Lib.hid (show AtI Tryz.prog 153 #[.pointer (some ⟨w.heap.size, 0, none⟩)] wr r.length (rowG x) from
    ⟨fun _ _ => by kernel_rfl, fun k hk w1 k' => ap2_any x b d k _ w1 (HN.out.kp ((HK2.out.trans HK9.out).trans k')) (any_vl HVX.out) hxl ((HK9.out.trans k').cell HB.out) (by have := HRW.out.2.1; have := HNE.out; have := HC0.out; omega)⟩)
  have HZ := Lib.hid (show dotF q (rowG r) (rowG x) (r.length - 1) = F cur.length by rw [HF.out, HG.out, HRW.out.2.1])
  have HRN := Lib.hid (show 0 < r.length ∧ r.length ≤ 8 by have := HRW.out.2.1; have := HML.out; omega)
  clear hr hrc hrow hrl hpc hvc hcq hlt hown0 hk9
  go_wp2_with fail
  go_fit (dot_any _ r rc2 153 #[.pointer (some ⟨w.heap.size, 0, none⟩)] q (rowG x) _ HRW.out.1 HRW.out.2.2 HRN.out.1 HRN.out.2 HAT.out hq0 hq1 (HT.out.kp (HK2.out.trans HK9.out)))
  rintro e v1 ⟨z, rfl, hz, hzp, hzv, j1⟩
  have hownA := HOW.out.kp (j1.alloc (.cells #[.bool z.lo.neg, .slice z.lo.a z.lo.xs.length z.lo.c, .int .i64 z.lo.e, .bool z.hi.neg, .slice z.hi.a z.hi.xs.length z.hi.c, .int .i64 z.hi.e, .bool z.all] 44))
  have hzA := hz.kp ((Kp.refl v1).alloc (.cells #[.bool z.lo.neg, .slice z.lo.a z.lo.xs.length z.lo.c, .int .i64 z.lo.e, .bool z.hi.neg, .slice z.hi.a z.hi.xs.length z.hi.c, .int .i64 z.hi.e, .bool z.all] 44))
  have ZP := Lib.hid (And.intro (hzp.trans HZ.out) hzv)
  clear hz hzp hzv j1 hrcr
  go_wp2_with (at_builtin; refine wpList_append_ivg rfl _ _ rfl W0 _ cur rfl hownA _ _ rfl z hzA (by simp) hcl ?_; intro a' c' w9 hown9 hgrow hblk)
  go_roundg (gk - 1)
  case measure => have := HPC.out.2.2; omega
  case rel =>
  refine ⟨cur ++ [z], by have := HPC.out.2.2; rw [List.length_append, List.length_singleton]; omega, by rw [List.length_append, List.length_singleton]; go_num, by simpa using hown9, ?_, ok_snoc HPC.out.2.1 ZP.out.2⟩
  rw [plR_snoc, HPC.out.1, List.length_append, List.length_singleton, rowF_snoc, ZP.out.1]

theorem vlM_tab {m : List (List RI)} {r c : Nat} {F : Nat → Nat → PI} (hm : plM m = tabM r c F) (ho : okM m) (hr : 1 ≤ r ∧ r ≤ 8) (hc : 1 ≤ c ∧ c ≤ 8) : vlM m = true := by
  have l1 : m.length = r := by have := congrArg List.length hm; simpa [plM, tabM] using this
  have lr : ∀ (i : Nat) x, m[i]? = some x → x.length = c := fun i x hx => by
    have hi : i < r := by rw [← l1]; exact (List.getElem?_eq_some_iff.1 hx).1
    have px : plR x = rowF c (F i) := by
      have h1 : (plM m)[i]? = (tabM r c F)[i]? := by rw [hm]
      simpa [plM, tabM, hx, hi] using h1
    have := congrArg List.length px; simpa [plR, rowF] using this
  have hcm : colsM m = c := by
    have h0 : 0 < m.length := by omega
    rw [colsM_eq (List.getElem?_eq_getElem h0)]
    exact lr 0 _ (List.getElem?_eq_getElem h0)
  rw [vlM_iff]
  refine ⟨by omega, by omega, fun x hx => ?_⟩
  obtain ⟨i, hi⟩ := List.getElem?_of_mem hx
  exact ⟨by rw [hcm]; exact lr i x hi, ho x hx⟩
theorem tab_len {Z : List (List RI)} {r c : Nat} {F : Nat → Nat → PI} (h : plM Z = tabM r c F) : Z.length = r := by
  have := congrArg List.length h; simpa [plM, tabM] using this
theorem tab_row {Z : List (List RI)} {r c : Nat} {F : Nat → Nat → PI} (h : plM Z = tabM r c F) {i : Nat} (hi : i < r) : ∃ x, Z[i]? = some x ∧ plR x = rowF c (F i) := by
  have hl := tab_len h
  have hi2 : i < Z.length := by omega
  refine ⟨_, List.getElem?_eq_getElem hi2, ?_⟩
  have := congrArg (fun l => l[i]?) h
  simpa [plM, tabM, List.getElem?_eq_getElem hi2, hi] using this
theorem tab_cell {Z : List (List RI)} {r c : Nat} {F : Nat → Nat → PI} (h : plM Z = tabM r c F) {i j : Nat} (hi : i < r) (hj : j < c) : ∃ x y, Z[i]? = some x ∧ x.length = c ∧ x[j]? = some y ∧ y.pl = F i j := by
  obtain ⟨x, hx, hp⟩ := tab_row h hi
  have hl : x.length = c := by have := congrArg List.length hp; simpa [plR, rowF] using this
  have hj2 : j < x.length := by omega
  refine ⟨x, _, hx, hl, List.getElem?_eq_getElem hj2, ?_⟩
  have := congrArg (fun l => l[j]?) hp
  simpa [plR, rowF, List.getElem?_eq_getElem hj2, hj] using this
theorem atP_tab {Z : List (List RI)} {r c : Nat} {F : Nat → Nat → PI} (h : plM Z = tabM r c F) {i j : Nat} (hi : i < r) (hj : j < c) : atP Z i j = F i j := by
  obtain ⟨x, y, hx, _, hy, hp⟩ := tab_cell h hi hj
  rw [atP_eq hx hy, hp]
theorem colsM_tab {Z : List (List RI)} {r c : Nat} {F : Nat → Nat → PI} (h : plM Z = tabM r c F) (hr : 1 ≤ r) : colsM Z = c := by
  obtain ⟨x, hx, hp⟩ := tab_row h (i := 0) (by omega)
  have hl : x.length = c := by have := congrArg List.length hp; simpa [plR, rowF] using this
  unfold colsM
  cases Z with
  | cons z Z => simp at hx; subst hx; simpa using hl
  | nil => simp at hx
theorem tabM_congr {r c : Nat} {F G : Nat → Nat → PI} (h : ∀ i j, i < r → j < c → F i j = G i j) : tabM r c F = tabM r c G := by
  unfold tabM rowF
  refine List.map_congr_left fun i hi => List.map_congr_left fun j hj => h i j (List.mem_range.1 hi) (List.mem_range.1 hj)
theorem dotF_congr {p : Nat} {f f' g g' : Nat → PI} : ∀ n, (∀ t, t ≤ n → f t = f' t ∧ g t = g' t) → dotF p f g n = dotF p f' g' n
  | 0, h => by
    show pMul _ _ p = pMul _ _ p
    rw [(h 0 (Nat.le_refl 0)).1, (h 0 (Nat.le_refl 0)).2]
  | n + 1, h => by
    show pAdd _ _ p = pAdd _ _ p
    rw [dotF_congr n fun t ht => h t (by omega), (h (n + 1) (Nat.le_refl _)).1, (h (n + 1) (Nat.le_refl _)).2]
def oneR (x y : RI) : Bool := (x.all == y.all) && (sameR x.lo y.lo && sameR x.hi y.hi)
theorem oneR_pl {w w' : World} {x y : RI} (hx : x.rd w) (hy : y.rd w') (vx : x.vl = true) (vy : y.vl = true) (h : x.pl = y.pl) : oneR x y = true := by
  have ha := pl_all h
  unfold oneR
  cases hxa : x.all with
  | false =>
    have hya : y.all = false := by rw [← ha]; exact hxa
    have ox : x.ok w := ⟨hx, hxa, vx⟩
    have oy : y.ok w' := ⟨hy, hya, vy⟩
    rw [hya, sameR_dy ox.lo oy.lo (pl_lo h), sameR_dy ox.hi oy.hi (pl_hi h)]
    rfl
  | true =>
  have hya : y.all = true := by rw [← ha]; exact hxa
  unfold RI.vl at vx vy
  rw [hxa, if_pos rfl, Bool.and_eq_true] at vx
  rw [hya, if_pos rfl, Bool.and_eq_true] at vy
  obtain ⟨a1, a2, a3⟩ := RD.zr_parts.1 vx.1
  obtain ⟨b1, b2, b3⟩ := RD.zr_parts.1 vx.2
  obtain ⟨c1, c2, c3⟩ := RD.zr_parts.1 vy.1
  obtain ⟨d1, d2, d3⟩ := RD.zr_parts.1 vy.2
  rw [hya]
  unfold sameR
  rw [a1, a2, a3, b1, b2, b3, c1, c2, c3, d1, d2, d3]
  rfl
set_option maxHeartbeats 4000000 in
theorem numF_any (n : Int) (w : World) (h0 : n ≠ 0) (hb : n.natAbs ≤ 1000) :
    Calls Tryz.prog 40 #[.int .i64 n] w fun e w' => ∃ y : RD, e = .returned (.agg #[.bool y.neg, .slice y.a y.xs.length y.c, .int .i64 y.e]) ∧ y.ok w' ∧ y.dy = intD n ∧ Kp w w' := by
  have hlo : -1000 ≤ n := by omega
  have hhi : n ≤ 1000 := by omega
  obtain ⟨N, hN⟩ : ∃ N : Nat, N = n.natAbs := ⟨_, rfl⟩
  have hmax : max n (-n) = (N : Int) := by omega
  have hz1 : ((N : Int) == 0) = false := beq_eq_false_iff_ne.2 (by omega)
  have HN := Lib.hid (And.intro hN (show 0 < N ∧ N ≤ 1000 by omega))
  obtain ⟨B, hB⟩ : ∃ B : Bool, B = decide (n < 0) := ⟨_, rfl⟩
  have HB := Lib.hid hB
  clear hN h0 hb
  go_enter Tryz.func40, Tryz.ntmps40
  go_upto_region 3 with fail
  rw [← hB]
  clear hB
  have hO : Box3 ((w.alloc (.cells #[.bool false, .slice none 0 0, .int .i64 0] 38)).alloc (.cells #[.bool B, .slice none 0 0, .int .i64 0] 38)) w.heap.size (.bool false) (.slice none 0 0) (.int .i64 0) := (Box3.new w _ _ _ _).kp ((Kp.refl _).alloc _)
  have hD : Box3 ((w.alloc (.cells #[.bool false, .slice none 0 0, .int .i64 0] 38)).alloc (.cells #[.bool B, .slice none 0 0, .int .i64 0] 38)) (w.heap.size + 1) (.bool B) (.slice none 0 0) (.int .i64 0) := by
    have := Box3.new (w.alloc (.cells #[.bool false, .slice none 0 0, .int .i64 0] 38)) (.bool B) (.slice none 0 0) (.int .i64 0) 38
    rwa [World.size_alloc] at this
  have hk : Kp w ((w.alloc (.cells #[.bool false, .slice none 0 0, .int .i64 0] 38)).alloc (.cells #[.bool B, .slice none 0 0, .int .i64 0] 38)) := ((Kp.refl w).alloc _).alloc _
  generalize ((w.alloc (.cells #[.bool false, .slice none 0 0, .int .i64 0] 38)).alloc (.cells #[.bool B, .slice none 0 0, .int .i64 0] 38)) = W at *
  go_wp2_with fail
  go_loopg [0] N (fun q v wr => ∃ e : Nat, v = .int .i64 q ∧ 0 < q ∧ q * 2 ^ e = N ∧ Kp w wr ∧ Box3 wr w.heap.size (.bool false) (.slice none 0 0) (.int .i64 0) ∧ Box3 wr (w.heap.size + 1) (.bool B) (.slice none 0 0) (.int .i64 e))
  case atStart => exact ⟨0, rfl, HN.out.2.1, by simp, hk, hO, hD⟩
  case round =>
  obtain ⟨e, rfl, hq0, hqe, hkr, hOr, hDr⟩ := hrel
  have HQ := Lib.hid (And.intro hq0 hqe)
  have he10 : e ≤ 10 := by
    have h1 : 2 ^ e ≤ N := by rw [← hqe]; exact Nat.le_mul_of_pos_left _ hq0
    have h2 := HN.out.2.2
    exact Classical.byContradiction fun h => by
      have : 2 ^ 11 ≤ 2 ^ e := Nat.pow_le_pow_right (by decide) (by omega)
      omega
  have hq9 : gk ≤ 1000 := by have h1 : gk ≤ N := by { rw [← hqe]; exact Nat.le_mul_of_pos_right _ (Nat.pow_pos (by decide)) }; have := HN.out.2.2; omega
  have hj9 : (gk : Int) ≤ 1000 := by omega
  clear hO hD hk hqe
  rcases Nat.mod_two_eq_zero_or_one gk with hm | hm
  · obtain ⟨j, rfl⟩ : ∃ j, gk = 2 * j := ⟨gk / 2, by omega⟩
    have hr : Int.tmod ((2 * j : Nat) : Int) 2 = 0 := by rw [Int.tmod_eq_emod_of_nonneg (by omega)]; omega
    have hd : Int.tdiv ((2 * j : Nat) : Int) 2 = (j : Int) := by rw [Int.tdiv_eq_ediv_of_nonneg (by omega)]; omega
    obtain ⟨q0, q1, q2, f0, f1, f2⟩ := id hDr
    go_upto_region 6 with fail
    have hj8 : (j : Int) ≤ 1000 := by omega
    go_region
    go_wp2_with fail
    go_roundg j
    case measure => omega
    case rel =>
    have hE := Box3.setN hDr (fun _ h => by cases h) (.int .i64 ((e : Int) + 1))
    exact ⟨e + 1, by go_num, by omega, by rw [Nat.pow_succ, Nat.mul_comm (2 ^ e) 2, ← Nat.mul_assoc, Nat.mul_comm j 2]; exact HQ.out.2, (hE.2.2.2.1 _ hkr (by omega)).drew, (hE.2.box3 (by omega) hOr).kp (Kp.refl _).drew, hE.1.kp (Kp.refl _).drew⟩
  have hr : Int.tmod ((gk : Nat) : Int) 2 = 1 := by rw [Int.tmod_eq_emod_of_nonneg (by omega)]; omega
  have hA := (Kp.refl wr).alloc (.cells #[.int .u32 (gk : Int)] 109)
  have hDA := hDr.kp hA
  obtain ⟨q0, q1, q2, f0, f1, f2⟩ := id hDA
  go_upto_region 8 with fail
  obtain ⟨hM, hU⟩ := Box3.setM hDA (fun _ h => by cases h) (.slice (some ⟨wr.heap.size, 0, none⟩) 1 1)
  have hRd : Rd (wr.alloc (.cells #[.int .u32 (gk : Int)] 109)) (some ⟨wr.heap.size, 0, none⟩) [gk] := ⟨by intro x hx; simp at hx; omega, .inr ⟨_, _, rfl, fun i hi => by
    obtain rfl : i = 0 := by simp at hi; omega
    simp [nth]⟩⟩
  have hRd2 := hU.2.1 _ _ hRd
  have hO2 := hU.box3 (by omega) (hOr.kp hA)
  have hK2 := hU.2.2.1 _ (hkr.trans hA) (by omega)
  clear q0 q1 q2 f0 f1 f2 hDA hA hRd hU hOr hDr hkr
  generalize ((wr.alloc _).setCell _ _) = W9 at *
  obtain ⟨q0, q1, q2, _⟩ := id hM
  obtain ⟨r0, r1, r2, f0, f1, f2⟩ := id hO2
  go_wp2_with fail
  have hst := stored r0 r1 r2 (fun _ h => by cases h) (fun _ h => by cases h) (fun _ h => by cases h) (.bool B) (.slice (some ⟨wr.heap.size, 0, none⟩) 1 1) (.int .i64 e)
  generalize (((W9.setCell _ _).setCell _ _).setCell _ _) = W8 at hst ⊢
  obtain ⟨s0, s1, s2, _, s4, s5, _, _⟩ := hst
  have hok : (⟨B, gk, (e : Int)⟩ : Dy).ok := by
    have hb1 : bits gk ≤ 10 := bits_le.2 (by omega)
    exact .inr ⟨hm, by show bits gk ≤ 4096; omega, by show (-16384 : Int) ≤ e; omega, by show (e : Int) ≤ 16384; omega, by show (bits gk : Int) + e ≤ 16384; omega⟩
  have hdy : (⟨B, gk, (e : Int)⟩ : Dy) = intD n := by
    refine intD_eqs hok ?_ ?_
    · omega
    · rw [iv_sg]
      show sg B gk * 2 ^ ((e : Int) + 16384).toNat = _
      rw [show ((e : Int) + 16384).toNat = e + 16384 from by omega, Int.pow_add, ← Int.mul_assoc]
      congr 1
      have hN9 : ((gk * 2 ^ e : Nat) : Int) = (n.natAbs : Int) := by rw [HQ.out.2, HN.out.1]
      rw [Int.natCast_mul, Int.natCast_pow] at hN9
      have hBn := HB.out
      unfold sg
      cases B with
      | true =>
        have : n < 0 := by simpa using hBn.symm
        rw [if_pos rfl, Int.neg_mul]
        have e9 : ((2 : Nat) : Int) = 2 := rfl
        rw [e9] at hN9
        omega
      | false =>
        have : ¬ n < 0 := by simpa using hBn.symm
        rw [if_neg (by decide)]
        have e9 : ((2 : Nat) : Int) = 2 := rfl
        rw [e9] at hN9
        omega
  have hl1 : limbs gk = [gk] := limbs_one7 (by omega) (by omega)
  refine bodyPost_ret (v := .agg #[.bool B, .slice (some ⟨wr.heap.size, 0, none⟩) 1 1, .int .i64 e]) (by simp [results, Tryz.results40, go_sem, s0, s1, s2]) rfl ?_
  refine ⟨rdOf ⟨B, gk, e⟩ (some ⟨wr.heap.size, 0, none⟩) 1, ?_, rdOf_ok hok (by show Rd W8 _ (limbs gk); rw [hl1]; exact s4 _ _ hRd2) (by show (limbs gk).length ≤ 1; rw [hl1]; exact Nat.le_refl _) (by decide), by rw [rdOf_dy]; exact hdy, s5 _ hK2 (by omega)⟩
  unfold rdOf
  show Ending.returned (.agg #[.bool B, .slice (some ⟨wr.heap.size, 0, none⟩) 1 1, .int .i64 e]) = .returned (.agg #[.bool B, .slice (some ⟨wr.heap.size, 0, none⟩) (limbs gk).length 1, .int .i64 e])
  rw [hl1]; rfl
set_option maxHeartbeats 2000000 in
theorem numF_zero (w : World) :
    Calls Tryz.prog 40 #[.int .i64 0] w fun e w' => e = .returned (.agg #[.bool false, .slice none 0 0, .int .i64 0]) ∧ Kp w w' := by
  have kk := ((Kp.refl w).alloc (.cells #[.bool false, .slice none 0 0, .int .i64 0] 38)).alloc (.cells #[.bool false, .slice none 0 0, .int .i64 0] 38)
  have hB : Box3 ((w.alloc (.cells #[.bool false, .slice none 0 0, .int .i64 0] 38)).alloc (.cells #[.bool false, .slice none 0 0, .int .i64 0] 38)) w.heap.size (.bool false) (.slice none 0 0) (.int .i64 0) := (Box3.new w _ _ _ _).kp ((Kp.refl _).alloc _)
  go_enter Tryz.func40, Tryz.ntmps40
  go_upto_region 3 with fail
  generalize ((w.alloc _).alloc _) = W at *
  obtain ⟨q0, q1, q2, f0, f1, f2⟩ := id hB
  go_wp2_with fail
  generalize hW9 : (((W.setCell _ _).setCell _ _).setCell _ _) = W9
  obtain ⟨⟨s0, s1, s2, _⟩, hU⟩ := stored3 hB (fun _ h => by cases h) (fun _ h => by cases h) (fun _ h => by cases h) _ _ _ hW9
  clear hW9 q0 q1 q2 f0 f1 f2
  refine bodyPost_ret (v := .agg #[.bool false, .slice none 0 0, .int .i64 0]) (by simp [results, Tryz.results40, go_sem, s0, s1, s2]) rfl ?_
  exact ⟨rfl, hU.2.2.1 _ kk (Nat.le_refl _)⟩
set_option maxHeartbeats 1000000 in
theorem numberF_any (x y : RD) (w : World) (hx : x.rd w) (hy : y.rd w) :
    Calls Tryz.prog 41 #[.agg #[.bool x.neg, .slice x.a x.xs.length x.c, .int .i64 x.e], .agg #[.bool y.neg, .slice y.a y.xs.length y.c, .int .i64 y.e]] w fun e w' => e = .returned (.bool (sameR x y)) ∧ Kp w w' := by
  have H := Lib.hid (show sameR x y = ((x.neg == y.neg) && (decide (x.e = y.e) && decide (x.xs = y.xs))) from rfl)
  have hk := ((Kp.refl w).alloc (.cells #[.bool x.neg, .slice x.a x.xs.length x.c, .int .i64 x.e] 38)).alloc (.cells #[.bool y.neg, .slice y.a y.xs.length y.c, .int .i64 y.e] 38)
  have hxl := hx.2.2.2.1
  by_cases hn : x.neg = y.neg
  rotate_left
  · have hn1 : (x.neg == y.neg) = false := by cases h1 : x.neg <;> cases h2 : y.neg <;> simp_all
    clear hn
    go_enter Tryz.func41, Tryz.ntmps41
    go_wp2_with fail
    go_ret
    exact ⟨ret_bool (by rw [H.out, hn1]; simp), hk⟩
  have hn1 : (x.neg == y.neg) = true := by rw [hn]; cases y.neg <;> rfl
  by_cases he : x.e = y.e
  rotate_left
  · have he1 : (x.e == y.e) = false := beq_eq_false_iff_ne.2 he
    have Hn := Lib.hid he
    clear hn he
    go_enter Tryz.func41, Tryz.ntmps41
    go_wp2_with fail
    go_ret
    exact ⟨ret_bool (by rw [H.out, decide_eq_false Hn.out]; simp), hk⟩
  have he1 : (x.e == y.e) = true := beq_iff_eq.2 he
  have Hn := Lib.hid (And.intro hn1 he)
  clear hn he
  go_enter Tryz.func41, Tryz.ntmps41
  go_wp2_with fail
  refine (eqU_any x.a y.a x.xs y.xs x.c y.c _ (hx.1.kp hk) (hy.1.kp hk) hxl).mono ?_
  rintro e w3 ⟨rfl, hk3⟩
  go_wp2_with fail
  go_ret
  exact ⟨ret_bool (by rw [H.out, Hn.out.1, Hn.out.2]; simp), hk.trans hk3⟩
end Go.Proofs.YtbhmhfnfceakoaaGreatDoor
