/-
  Walks: matrix.Apply.
  Walks: slices.EqualFunc at [][]api.Interval, [][]api.Interval.
  Walks: interval.Inside of any valid intervals, matrix.Inside.
  Plain: what a table's rows and cells are; sums of products of equal terms; no program in sight.
  Walks: the law's own number, one.
-/
import Derived.Deep.LoopGhost
import Derived.Deep.DeepFit
import Derived.Test.YtdlpiblgkpgplaaGreatDoorMR7V
import Derived.Test.YtdlpiblgkpgplaaGreatDoorMIvF
import Derived.Test.YtdlpiblgkpgplaaGreatDoorMCmpD
import Derived.Test.YtdlpiblgkpgplaaGreatDoorMRoAdd
import Derived.Test.YtdlpiblgkpgplaaGreatDoorMRectM
import Derived.Test.YtdlpiblgkpgplaaGreatDoorMIvMl
import Derived.Test.YtdlpiblgkpgplaaGreatDoorMIvS
import Derived.Test.YtdlpiblgkpgplaaGreatDoorMSumH
section
namespace Go.Proofs.YtdlpiblgkpgplaaGreatDoor
open Go.RowKit

/-- a row of intervals, of the call's own, and an error number -/
def RowE (w : World) (X : List PI) (f : Int) (e : Ending) (w' : World) : Prop :=
  ∃ (a : Option Addr) (Z : List RI) (c : Nat), e = .returned (.tuple #[.slice a Z.length c, .int .i64 f]) ∧ RowI w' a Z ∧ plR Z = X ∧ (∀ x ∈ Z, x.vl = true) ∧ Z.length ≤ 1100000 ∧ Kp w w'
theorem rowE_nil {w w' : World} {f : Int} {e : Ending} (h : e = .returned (.tuple #[.slice none 0 0, .int .i64 f])) (k : Kp w w') : RowE w [] f e w' := ⟨none, [], 0, h, fun i x h => by simp at h, rfl, fun x h => by simp at h, by simp, k⟩
/-- a matrix times a column, or its error -/
def applyC (m : List (List RI)) (x : List RI) (p : Int) : List PI × Int :=
  if vlM m = false then ([], 1) else if (x.any fun y => !y.vl) = true then ([], 1) else if preB p = false then ([], 2) else if colsM m ≠ x.length then ([], 3) else (rowF m.length fun i => dotF p.toNat (atP m i) (rowG x) (colsM m - 1), 0)
theorem any_vl {x : List RI} (h : (x.any fun y => !y.vl) = false) : ∀ y ∈ x, y.vl = true := fun y hy => by
  have := List.any_eq_false.1 h y hy
  simpa using this
set_option maxHeartbeats 4000000 in
theorem ap1_any (x : RI) (w : World) (hx : x.rd w) :
    Calls Tryz.prog 72 #[.agg #[.bool x.lo.neg, .slice x.lo.a x.lo.xs.length x.lo.c, .int .i64 x.lo.e, .bool x.hi.neg, .slice x.hi.a x.hi.xs.length x.hi.c, .int .i64 x.hi.e, .bool x.all]] w fun e w' => e = .returned (.bool (!x.vl)) ∧ Kp w w' := by
  have k1 := (Kp.refl w).alloc (.cells #[.bool x.lo.neg, .slice x.lo.a x.lo.xs.length x.lo.c, .int .i64 x.lo.e, .bool x.hi.neg, .slice x.hi.a x.hi.xs.length x.hi.c, .int .i64 x.hi.e, .bool x.all] 35)
  have HX := Lib.hid (hx.kp k1)
  clear hx
  go_enter Tryz.func72, Tryz.ntmps72
  go_upto_region 1 with fail
  generalize hW : w.alloc _ = W at *
  obtain ⟨s0, s1, s2, s3, s4, s5, s6⟩ : W.cell? ⟨w.heap.size, 0, none⟩ = some (.bool x.lo.neg) ∧ W.cell? ⟨w.heap.size, 1, none⟩ = some (.slice x.lo.a x.lo.xs.length x.lo.c) ∧ W.cell? ⟨w.heap.size, 2, none⟩ = some (.int .i64 x.lo.e) ∧ W.cell? ⟨w.heap.size, 3, none⟩ = some (.bool x.hi.neg) ∧ W.cell? ⟨w.heap.size, 4, none⟩ = some (.slice x.hi.a x.hi.xs.length x.hi.c) ∧ W.cell? ⟨w.heap.size, 5, none⟩ = some (.int .i64 x.hi.e) ∧ W.cell? ⟨w.heap.size, 6, none⟩ = some (.bool x.all) := by rw [← hW]; simp
  clear hW
  go_wp2_with fail
  go_fit (IValid_raw x _ HX.out)
  rintro e w1 ⟨rfl, k2⟩
  go_wp2_with fail
  go_ret
  exact ⟨rfl, k1.trans k2⟩
set_option maxHeartbeats 4000000 in
theorem ap2_any (x : List RI) (a : Option Addr) (c k bb : Nat) (w : World) (hx : RowI w a x) (hv : ∀ y ∈ x, y.vl = true) (_hl : x.length ≤ 8) (hb : w.cell? ⟨bb, 0, none⟩ = some (.slice a x.length c)) (hk : k < x.length) :
    Calls Tryz.prog 75 #[.int .i64 (k : Int), .pointer (some ⟨bb, 0, none⟩)] w (IvOut w (rowG x k)) := by
  obtain ⟨y, hy⟩ : ∃ y, x[k]? = some y := ⟨_, List.getElem?_eq_getElem hk⟩
  have HX := Lib.hid (And.intro (rowG_eq hy) (hv y (List.mem_of_getElem? hy)))
  obtain ⟨b3, o3, rfl, hrd, hS⟩ := hx k y hy
  have k1 := (Kp.refl w).alloc (.cells #[.bool false, .slice none 0 0, .int .i64 0, .bool false, .slice none 0 0, .int .i64 0, .bool false] 35)
  have hi1 : (0 : Int) ≤ (k : Int) := by omega
  have hi2 : (k : Int) < (x.length : Int) := by omega
  have HR := Lib.hid (hrd.kp k1)
  have hb1 := k1.cell hb
  have hS1 := keep7 k1 hS
  have hV := Var7.new w 35
  clear hx hv hy hb hS hrd
  go_enter Tryz.func75, Tryz.ntmps75
  go_upto_region 1 with fail
  generalize w.alloc _ = W at *
  obtain ⟨⟨q0, q1, q2, q3, q4, q5, q6⟩, f0, f1, f2, f3, f4, f5, f6⟩ := id hV
  obtain ⟨s0, s1, s2, s3, s4, s5, s6⟩ := hS1
  go_wp2_with fail
  generalize hW9 : ((((((W.setCell _ _).setCell _ _).setCell _ _).setCell _ _).setCell _ _).setCell _ _).setCell _ _ = W9
  obtain ⟨⟨s0, s1, s2, s3, s4, s5, s6⟩, hU⟩ := stored7 (show Box7 W _ _ _ _ _ _ _ _ from ⟨q0, q1, q2, q3, q4, q5, q6⟩) (fun _ h => by cases h) (fun _ h => by cases h) (fun _ h => by cases h) (fun _ h => by cases h) (fun _ h => by cases h) (fun _ h => by cases h) (fun _ h => by cases h) _ _ _ _ _ _ _ hW9
  clear hW9 q0 q1 q2 q3 q4 q5 q6 f0 f1 f2 f3 f4 f5 f6
  refine bodyPost_ret (v := .agg #[.bool y.lo.neg, .slice y.lo.a y.lo.xs.length y.lo.c, .int .i64 y.lo.e, .bool y.hi.neg, .slice y.hi.a y.hi.xs.length y.hi.c, .int .i64 y.hi.e, .bool y.all]) (by simp [results, Tryz.results75, go_sem, s0, s1, s2, s3, s4, s5, s6]) rfl ?_
  exact ⟨y, rfl, hU.rdI HR.out, HX.out.1.symm, HX.out.2, hU.2.2.1 _ k1 (by omega)⟩
set_option maxRecDepth 100000 in
set_option maxHeartbeats 8000000 in
theorem mapply_any (a b : Option Addr) (m : List (List RI)) (x : List RI) (c d : Nat) (p : Int) (w : World) (hm : RowM w a m) (hx : RowI w b x) (hl : m.length ≤ 1100000) (hl2 : x.length ≤ 1100000) (hT : Tab w) :
    Calls Tryz.prog 35 #[.slice a m.length c, .slice b x.length d, .int .i64 p] w (RowE w (applyC m x p).1 (applyC m x p).2) := by
  have HM := Lib.hid hm
  have HN := Lib.hid hx
  have HT := Lib.hid hT
  obtain ⟨D, hD⟩ : ∃ D, D = applyC m x p := ⟨_, rfl⟩
  have HD := Lib.hid hD
  rw [← hD]
  clear hm hx hT hD
  go_enter Tryz.func35, Tryz.ntmps35
  go_wp2_with fail
  generalize hW : w.alloc _ = W at *
  have hk : Kp w W := hW ▸ (Kp.refl w).alloc _
  have hbox : W.cell? ⟨w.heap.size, 0, none⟩ = some (.slice b x.length d) := by rw [← hW]; simp
  clear hW
  go_fit (mvalid_any a m c _ (HM.out.kp hk) hl)
  rintro e w1 ⟨rfl, k1⟩
  have hk1 := hk.trans k1
  have hbox1 := k1.cell hbox
  clear hk hbox k1
  cases hvm : vlM m with
  | false =>
    have HE := Lib.hid (show D = ([], 1) by rw [HD.out]; unfold applyC; rw [if_pos hvm])
    clear hvm
    go_wp2_with fail
    rw [HE.out]
    refine bodyPost_ret (v := .tuple #[.slice none 0 0, .int .i64 1]) (by simp [results, Tryz.results35, go_sem]) rfl ?_
    exact rowE_nil rfl hk1
  | true =>
    have HVM := Lib.hid hvm
    clear hvm
    go_wp2_with fail
    go_fit (containsI b x d 72 #[] _ (fun y => !y.vl) hl2 (HN.out.kp hk1) ⟨fun _ _ => by kernel_rfl, fun y hy w1 k => ap1_any y w1 (((HN.out.kp hk1).kp k).rdI hy)⟩)
    rintro e w2 ⟨rfl, k2⟩
    have hk2 := hk1.trans k2
    have hbox2 := k2.cell hbox1
    clear hk1 hbox1 k2
    cases hvx : x.any fun y => !y.vl with
    | true =>
      have HE := Lib.hid (show D = ([], 1) by rw [HD.out]; unfold applyC; rw [HVM.out, hvx]; rfl)
      clear hvx
      go_wp2_with fail
      rw [HE.out]
      refine bodyPost_ret (v := .tuple #[.slice none 0 0, .int .i64 1]) (by simp [results, Tryz.results35, go_sem]) rfl ?_
      exact rowE_nil rfl hk2
    | false =>
      have HVX := Lib.hid hvx
      clear hvx
      go_wp2_with fail
      go_fit (mprecise_any p _)
      rintro e w3 ⟨rfl, rfl⟩
      cases hp : preB p with
      | false =>
        have HE := Lib.hid (show D = ([], 2) by rw [HD.out]; unfold applyC; rw [HVM.out, HVX.out, hp]; rfl)
        clear hp
        go_wp2_with fail
        rw [HE.out]
        refine bodyPost_ret (v := .tuple #[.slice none 0 0, .int .i64 2]) (by simp [results, Tryz.results35, go_sem]) rfl ?_
        exact rowE_nil rfl hk2
      | true =>
        have HP := Lib.hid hp
        clear hp
        obtain ⟨r0, hr0, hc0⟩ := vlM_row0 HVM.out
        have hml := (vlM_iff.1 HVM.out).1
        have hmc := (vlM_iff.1 HVM.out).2.1
        obtain ⟨ba, oa, ra, rc, rfl, hrow, _⟩ := HM.out 0 r0 hr0
        rw [Nat.add_zero] at hrow
        have hi1 : (0 : Int) < (m.length : Int) := by omega
        have HC0 := Lib.hid hc0
        have kd := (Kp.refl w2).drew
        have hbr := (hk2.trans kd).cell hrow
        have hbb := kd.cell hbox2
        replace hk2 := hk2.trans kd
        have hlr : r0.length ≤ 8 := by omega
        have HML := Lib.hid (And.intro hml hmc)
        clear hr0 hrow hc0 kd hbox2 hml hmc
        go_upto_region 5 with fail
        go_region
        generalize w2.drew = W0 at *
        by_cases hne : r0.length = x.length
        · have hne1 : ((r0.length : Int) != (x.length : Int)) = false := by rw [hne]; simp
          obtain ⟨q, hq⟩ : ∃ q : Nat, q = p.toNat := ⟨_, rfl⟩
          have hpq : p = (q : Int) := by
            have := preB_iff.1 HP.out
            omega
          have hq0 : 8 ≤ q := by have := preB_iff.1 HP.out; omega
          have hq1 : q ≤ 512 := by have := preB_iff.1 HP.out; omega
          obtain ⟨F, hF⟩ : ∃ F : Nat → PI, F = fun i => dotF q (atP m i) (rowG x) (colsM m - 1) := ⟨_, rfl⟩
          have HDm := Lib.hid (show D = (rowF m.length F, 0) by
            rw [HD.out]; unfold applyC
            rw [HVM.out, HVX.out, HP.out, if_neg (by decide), if_neg (by decide), if_neg (by decide), if_neg (by have := HC0.out; omega), hF, hq])
          have HNE := Lib.hid hne
          have HF := Lib.hid hF
          rw [hpq]
          have HQ := Lib.hid hq
          have HK2 := Lib.hid hk2
          have HB := Lib.hid hbb
          have hxl : x.length ≤ 8 := by omega
          clear hne hq hpq hF hk2
          go_wp2_with fail
          rw [hne1]
          clear hne1 hbr hbb
          go_wp2_with fail
          go_loopg [8, 33] m.length (fun z v t wr => ∃ cur : List RI, cur.length + z = m.length ∧ t = .int .i64 (cur.length : Int) ∧ OwnN W0 wr v cur ∧ plR cur = rowF cur.length F ∧ ∀ x ∈ cur, x.vl = true)
          case atStart => exact ⟨[], by simp, rfl, OwnN.nil (Kp.refl _), rfl, fun x h => by simp at h⟩
          case round =>
            obtain ⟨cur, hcq, rfl, hown0, hpc, hvc⟩ := hrel
            have hk9 := hown0.1
            by_cases hlt : cur.length < m.length
            · obtain ⟨r, hr⟩ : ∃ r, m[cur.length]? = some r := ⟨_, List.getElem?_eq_getElem hlt⟩
              obtain ⟨b2, o2, ra2, rc2, e2, hrc, hrow, hrl⟩ := HM.out cur.length r hr
              cases e2
              have hrcr := (HK2.out.trans hk9).cell hrc
              have HRW := Lib.hid (And.intro (hrow.kp (HK2.out.trans hk9)) (vlM_row HVM.out hr))
              have HG := Lib.hid (show rowG r = atP m cur.length by rw [← rowG_at, List.getD_eq_getElem?_getD, hr]; rfl)
              have HPC := Lib.hid (And.intro hpc (And.intro hvc (And.intro hcq hlt)))
              have hk1 : (0 : Int) ≤ (cur.length : Int) := by omega
              have hk2 : (cur.length : Int) < (m.length : Int) := by omega
              have hcl : cur.length + 1 ≤ 9000000 := by omega
              have HOW := Lib.hid hown0
              have HK9 := Lib.hid hk9
              have HAT := Lib.hid (show AtI Tryz.prog 75 #[.pointer (some ⟨w.heap.size, 0, none⟩)] wr r.length (rowG x) from
                ⟨fun _ _ => by kernel_rfl, fun k hk w1 k' => ap2_any x b d k _ w1 (HN.out.kp ((HK2.out.trans HK9.out).trans k')) (any_vl HVX.out) hxl ((HK9.out.trans k').cell HB.out) (by have := HRW.out.2.1; have := HNE.out; have := HC0.out; omega)⟩)
              have HZ := Lib.hid (show dotF q (rowG r) (rowG x) (r.length - 1) = F cur.length by rw [HF.out, HG.out, HRW.out.2.1])
              have HRN := Lib.hid (show 0 < r.length ∧ r.length ≤ 8 by have := HRW.out.2.1; have := HML.out; omega)
              clear hr hrc hrow hrl hpc hvc hcq hlt hown0 hk9
              go_wp2_with fail
              go_fit (dot_any _ r rc2 75 #[.pointer (some ⟨w.heap.size, 0, none⟩)] q (rowG x) _ HRW.out.1 HRW.out.2.2 HRN.out.1 HRN.out.2 HAT.out hq0 hq1 (HT.out.kp (HK2.out.trans HK9.out)))
              rintro e v1 ⟨z, rfl, hz, hzp, hzv, j1⟩
              have hownA := HOW.out.kp (j1.alloc (.cells #[.bool z.lo.neg, .slice z.lo.a z.lo.xs.length z.lo.c, .int .i64 z.lo.e, .bool z.hi.neg, .slice z.hi.a z.hi.xs.length z.hi.c, .int .i64 z.hi.e, .bool z.all] 35))
              have hzA := hz.kp ((Kp.refl v1).alloc (.cells #[.bool z.lo.neg, .slice z.lo.a z.lo.xs.length z.lo.c, .int .i64 z.lo.e, .bool z.hi.neg, .slice z.hi.a z.hi.xs.length z.hi.c, .int .i64 z.hi.e, .bool z.all] 35))
              have ZP := Lib.hid (And.intro (hzp.trans HZ.out) hzv)
              clear hz hzp hzv j1 hrcr
              go_wp2_with (at_builtin; refine wpList_append_ivg rfl _ _ rfl W0 _ cur rfl hownA _ _ rfl z hzA (by simp) hcl ?_; intro a' c' w9 hown9 hgrow hblk)
              go_roundg (gk - 1)
              case measure => have := HPC.out.2.2; omega
              case rel =>
                refine ⟨cur ++ [z], by have := HPC.out.2.2; rw [List.length_append, List.length_singleton]; omega, by rw [List.length_append, List.length_singleton]; go_num, by simpa using hown9, ?_, ok_snoc HPC.out.2.1 ZP.out.2⟩
                rw [plR_snoc, HPC.out.1, List.length_append, List.length_singleton, rowF_snoc, ZP.out.1]
            · have hRe : cur.length = m.length := by omega
              obtain ⟨va, vc, rfl, hvc1, hvc2, hrm⟩ := hown0.value
              have HRe := Lib.hid (And.intro hRe (And.intro hrm (And.intro hpc hvc)))
              have HML8 := Lib.hid (show cur.length ≤ 1100000 by have := HML.out; omega)
              have HK9 := Lib.hid (HK2.out.trans hk9)
              clear hRe hcq hrm hpc hvc hown0 hk9
              go_wp2_with fail
              rw [HDm.out]
              refine bodyPost_ret (v := .tuple #[.slice va cur.length vc, .int .i64 0]) (by simp [results, Tryz.results35, go_sem]) rfl ?_
              refine ⟨va, cur, vc, rfl, HRe.out.2.1, ?_, HRe.out.2.2.2, HML8.out, HK9.out⟩
              rw [HRe.out.2.2.1, HRe.out.1]
        · have hne1 : ((r0.length : Int) != (x.length : Int)) = true := by simpa using (by omega : ¬ (r0.length : Int) = (x.length : Int))
          have HE := Lib.hid (show D = ([], 3) by
            rw [HD.out]; unfold applyC
            rw [HVM.out, HVX.out, HP.out, if_neg (by decide), if_neg (by decide), if_neg (by decide), if_pos (by have := HC0.out; omega)])
          clear hne
          go_wp2_with fail
          rw [hne1]
          go_wp2_with fail
          rw [HE.out]
          refine bodyPost_ret (v := .tuple #[.slice none 0 0, .int .i64 3]) (by simp [results, Tryz.results35, go_sem]) rfl ?_
          exact rowE_nil rfl hk2
end Go.Proofs.YtdlpiblgkpgplaaGreatDoor
end

section
namespace Go.Proofs.YtdlpiblgkpgplaaGreatDoor
open Go.RowKit

end Go.Proofs.YtdlpiblgkpgplaaGreatDoor
end

section
namespace Go.Proofs.YtdlpiblgkpgplaaGreatDoor
open Go.RowKit

/-- a table of valid intervals is a valid matrix -/
theorem vlM_tab {m : List (List RI)} {r c : Nat} {F : Nat → Nat → PI} (hm : plM m = tabM r c F) (ho : okM m) (hr : 1 ≤ r ∧ r ≤ 8) (hc : 1 ≤ c ∧ c ≤ 8) : vlM m = true := by
  have l1 : m.length = r := by have := congrArg List.length hm; simpa [plM, tabM] using this
  have lr : ∀ (i : Nat) x, m[i]? = some x → x.length = c := fun i x hx => by
    have hi : i < r := by rw [← l1]; exact (List.getElem?_eq_some_iff.1 hx).1
    have px : plR x = rowF c (F i) := by
      have h1 : (plM m)[i]? = (tabM r c F)[i]? := by rw [hm]
      simpa [plM, tabM, hx, hi] using h1
    have := congrArg List.length px; simpa [plR, rowF] using this
  have hcm : colsM m = c := by
    have h0 : 0 < m.length := by omega
    rw [colsM_eq (List.getElem?_eq_getElem h0)]
    exact lr 0 _ (List.getElem?_eq_getElem h0)
  rw [vlM_iff]
  refine ⟨by omega, by omega, fun x hx => ?_⟩
  obtain ⟨i, hi⟩ := List.getElem?_of_mem hx
  exact ⟨by rw [hcm]; exact lr i x hi, ho x hx⟩
end Go.Proofs.YtdlpiblgkpgplaaGreatDoor
end

section
namespace Go.Proofs.YtdlpiblgkpgplaaGreatDoor
open Go.RowKit

theorem tab_len {Z : List (List RI)} {r c : Nat} {F : Nat → Nat → PI} (h : plM Z = tabM r c F) : Z.length = r := by
  have := congrArg List.length h; simpa [plM, tabM] using this
theorem tab_row {Z : List (List RI)} {r c : Nat} {F : Nat → Nat → PI} (h : plM Z = tabM r c F) {i : Nat} (hi : i < r) : ∃ x, Z[i]? = some x ∧ plR x = rowF c (F i) := by
  have hl := tab_len h
  have hi2 : i < Z.length := by omega
  refine ⟨_, List.getElem?_eq_getElem hi2, ?_⟩
  have := congrArg (fun l => l[i]?) h
  simpa [plM, tabM, List.getElem?_eq_getElem hi2, hi] using this
theorem tab_cell {Z : List (List RI)} {r c : Nat} {F : Nat → Nat → PI} (h : plM Z = tabM r c F) {i j : Nat} (hi : i < r) (hj : j < c) : ∃ x y, Z[i]? = some x ∧ x.length = c ∧ x[j]? = some y ∧ y.pl = F i j := by
  obtain ⟨x, hx, hp⟩ := tab_row h hi
  have hl : x.length = c := by have := congrArg List.length hp; simpa [plR, rowF] using this
  have hj2 : j < x.length := by omega
  refine ⟨x, _, hx, hl, List.getElem?_eq_getElem hj2, ?_⟩
  have := congrArg (fun l => l[j]?) hp
  simpa [plR, rowF, List.getElem?_eq_getElem hj2, hj] using this
theorem atP_tab {Z : List (List RI)} {r c : Nat} {F : Nat → Nat → PI} (h : plM Z = tabM r c F) {i j : Nat} (hi : i < r) (hj : j < c) : atP Z i j = F i j := by
  obtain ⟨x, y, hx, _, hy, hp⟩ := tab_cell h hi hj
  rw [atP_eq hx hy, hp]
theorem colsM_tab {Z : List (List RI)} {r c : Nat} {F : Nat → Nat → PI} (h : plM Z = tabM r c F) (hr : 1 ≤ r) : colsM Z = c := by
  obtain ⟨x, hx, hp⟩ := tab_row h (i := 0) (by omega)
  have hl : x.length = c := by have := congrArg List.length hp; simpa [plR, rowF] using this
  unfold colsM
  cases Z with
  | nil => simp at hx
  | cons z Z => simp at hx; subst hx; simpa using hl
theorem dotF_congr {p : Nat} {f f' g g' : Nat → PI} : ∀ n, (∀ t, t ≤ n → f t = f' t ∧ g t = g' t) → dotF p f g n = dotF p f' g' n
  | 0, h => by
    show pMul _ _ p = pMul _ _ p
    rw [(h 0 (Nat.le_refl 0)).1, (h 0 (Nat.le_refl 0)).2]
  | n + 1, h => by
    show pAdd _ _ p = pAdd _ _ p
    rw [dotF_congr n fun t ht => h t (by omega), (h (n + 1) (Nat.le_refl _)).1, (h (n + 1) (Nat.le_refl _)).2]
end Go.Proofs.YtdlpiblgkpgplaaGreatDoor
end

section
namespace Go.Proofs.YtdlpiblgkpgplaaGreatDoor
open Go.RowKit

end Go.Proofs.YtdlpiblgkpgplaaGreatDoor
end
