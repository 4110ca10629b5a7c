/-
  The law MatrixIdentity: its walk.
-/
import Derived.Deep.RegionHeld3
import Derived.Deep.CutRange
import Derived.Test.YtdidocdpjiiedaaGreatDoorMIdnL
import Derived.Test.YtdidocdpjiiedaaGreatDoorMIdnM
import Derived.Test.YtdidocdpjiiedaaGreatDoorMTrnM
import Derived.Deep.RegionWith
import Derived.Test.YtdidocdpjiiedaaGreatDoorMFewM
import Derived.Test.YtdidocdpjiiedaaGreatDoorMAwk7
import Derived.Test.YtdidocdpjiiedaaGreatDoorMSam7
import Derived.Test.YtdidocdpjiiedaaGreatDoorMR7S
namespace Go.Proofs.YtdidocdpjiiedaaGreatDoor
open Go.RowKit

theorem atP_outI {m : List (List RI)} (hm : vlM m = true) {i j : Nat} (h : m.length ≤ i ∨ colsM m ≤ j) : atP m i j = .whole := by
  unfold atP atR
  by_cases hi : i < m.length
  · have hl := (vlM_row hm (List.getElem?_eq_getElem hi)).1
    have hg : m.getD i [] = m[i] := by rw [List.getD_eq_getElem?_getD, List.getElem?_eq_getElem hi]; rfl
    rw [hg, List.getD_eq_getElem?_getD, List.getElem?_eq_none (by omega)]; rfl
  · have hg : m.getD i [] = [] := by rw [List.getD_eq_getElem?_getD, List.getElem?_eq_none (by omega)]; rfl
    rw [hg]; rfl
theorem atP_okI {w : World} {a : Option Addr} {m : List (List RI)} (h : RowM w a m) (hm : vlM m = true) (i j : Nat) : (atP m i j).ok := by
  by_cases hc : m.length ≤ i ∨ colsM m ≤ j
  · rw [atP_outI hm hc]; exact PI.whole_ok
  · obtain ⟨r, x, hr, hx, hv, hat⟩ := vlM_get hm (show i < m.length by omega) (show j < colsM m by omega)
    obtain ⟨_, _, _, _, _, _, hrow, _⟩ := h i r hr
    rw [atP_eq hr hx]
    exact RI.pl_ok (hrow.rdI (List.mem_of_getElem? hx)) hv
theorem few_of {w : World} {a : Option Addr} {m : List (List RI)} {P : Nat} (h : RowM w a m) (hm : vlM m = true) (hf : (m.any fun r => r.any (manyI P)) = false) (i j : Nat) (hi : i < m.length) (hj : j < colsM m) : fewP P (atP m i j) := by
  have ho := atP_okI h hm i j
  obtain ⟨r, x, hr, hx, hv, hat⟩ := vlM_get hm hi hj
  have e := atP_eq hr hx
  rw [e] at ho ⊢
  have h1 := List.any_eq_false.1 hf r (List.mem_of_getElem? hr)
  have h2 := List.any_eq_false.1 (by simpa using h1) x (List.mem_of_getElem? hx)
  have h3 : manyI P x = false := by simpa using h2
  unfold manyI at h3
  simp only [Bool.or_eq_false_iff, decide_eq_false_iff_not] at h3
  have hol := PI.ok_lo ho
  have hoh := PI.ok_hi ho
  exact ⟨h3.1, ⟨hol, by have := h3.2.1; show bits x.lo.dy.m ≤ P; omega⟩, ⟨hoh, by have := h3.2.2; show bits x.hi.dy.m ≤ P; omega⟩⟩
theorem vlM_trn {m T : List (List RI)} (hm : vlM m = true) (hT : plM T = tabM (colsM m) m.length (fun j i => atP m i j)) (oT : okM T) : vlM T = true :=
  vlM_tab hT oT (vlM_iff.1 hm).2.1 (vlM_iff.1 hm).1
theorem trF_pl {m : List (List RI)} (hm : vlM m = true) : trF m = tabM (colsM m) m.length (fun j i => atP m i j) := by unfold trF; rw [if_pos hm]
/-- the product's code, and the product turned around -/
theorem okM_vl {m : List (List RI)} (hm : vlM m = true) : okM m := fun r hr => ((vlM_iff.1 hm).2.2 r hr).2
theorem mulC_vl {m n X : List (List RI)} {p : Nat} (vm : vlM m = true) (vn : vlM n = true) (h8 : 8 ≤ p) (hp : p ≤ 512) (h0 : (mulC m n p).2 = 0) (hX : plM X = (mulC m n p).1) (oX : okM X) : vlM X = true := by
  have hpre : preB (p : Int) = true := preB_iff.2 ⟨by omega, by omega⟩
  unfold mulC at h0 hX
  rw [vm, vn, hpre, if_neg (by decide), if_neg (by decide)] at h0 hX
  by_cases hs : colsM m = n.length
  · rw [if_neg (by omega)] at hX
    exact vlM_tab (show plM X = tabM m.length (colsM n) _ from hX) oX (vlM_iff.1 vm).1 (vlM_iff.1 vn).2.1
  · rw [if_pos (by omega)] at h0; cases h0
set_option maxRecDepth 100000 in
set_option maxHeartbeats 8000000 in
theorem Identity7_ok (a b : Option Addr) (m n : List (List RI)) (c d : Nat) (p : Int) (w : World) (hm : RowM w a m) (hn : RowM w b n) (hl : m.length ≤ 1100000) (hl2 : n.length ≤ 1100000) (hT : Tab w) :
    Calls Tryz.prog 9 #[.slice a m.length c, .slice b n.length d, .int .i64 p] w fun e w' => e = .returned (.bool true) ∧ Kp w w' := by
  have HM := Lib.hid hm
  have HN := Lib.hid hn
  have HTb := Lib.hid hT
  clear hm hn hT
  go_enter Tryz.func9, Tryz.ntmps9
  go_wp2_with fail
  generalize hW0 : w.alloc _ = W0 at *
  have h0 : Kp w W0 := hW0 ▸ (Kp.refl w).alloc _
  have hpb : W0.cell? ⟨w.heap.size, 0, none⟩ = some (.int .i64 p) := by rw [← hW0]; simp
  clear hW0
  go_fit (awake7_any _ (HTb.out.kp h0))
  rintro e w1 ⟨rfl, k1⟩
  have h1 := h0.trans k1
  have hpb1 := k1.cell hpb
  have HT := Lib.hid (rowT_two (c := c) (d := d) (HM.out.kp h1) (HN.out.kp h1) hl hl2 22)
  have hA := h1.alloc (.cells #[.slice a m.length c, .slice b n.length d] 22)
  have hpbA := ((Kp.refl w1).alloc (.cells #[.slice a m.length c, .slice b n.length d] 22)).cell hpb1
  clear k1 hpb hpb1 h0 h1
  go_wp2_with fail
  go_fit (great7_any [m, n] _ 2 _ HT.out (by simp))
  rintro e w2 ⟨rfl, k2⟩
  have hk2 := hA.trans k2
  have hp2 := k2.cell hpbA
  clear HT hA k2 hpbA
  cases hg : [m, n].any greatM with
  | true =>
    clear hg
    go_wp2_with fail
    go_ret
    exact ⟨rfl, hk2⟩
  | false =>
    clear hg
    by_cases hp8 : p < 8
    · go_wp2_with fail
      go_ret
      exact ⟨rfl, hk2⟩
    · by_cases hp128 : 128 < p
      · go_wp2_with fail
        go_ret
        exact ⟨rfl, hk2⟩
      · go_wp2_with fail
        go_fit (mvalid_any a m c _ (HM.out.kp hk2) hl)
        rintro e w3 ⟨rfl, k3⟩
        have hp3 := k3.cell hp2
        cases hvm : vlM m with
        | false =>
          have hkE := hk2.trans k3
          clear hvm
          go_wp2_with fail
          go_ret
          exact ⟨rfl, hkE⟩
        | true =>
          have HVM := Lib.hid hvm
          have hk3 := hk2.trans k3
          clear hvm hk2 k3 hp2
          go_wp2_with fail
          go_fit (mvalid_any b n d _ (HN.out.kp hk3) hl2)
          rintro e w4 ⟨rfl, k4⟩
          have hk4 := hk3.trans k4
          have hp4 := k4.cell hp3
          cases hvn : vlM n with
          | false =>
            clear hvn
            go_wp2_with fail
            go_ret
            exact ⟨rfl, hk4⟩
          | true =>
            have HVN := Lib.hid hvn
            clear hvn hk3 k4 hp3
            obtain ⟨P, rfl⟩ : ∃ P : Nat, p = (P : Int) := ⟨p.toNat, by omega⟩
            have HP := Lib.hid (show 8 ≤ P ∧ P ≤ 512 by omega)
            have HML := Lib.hid (vlM_iff.1 HVM.out).1
            go_upto_region 5 with fail
            have kd := (Kp.refl w4).drew
            have hp5 := kd.cell hp4
            have hkd := hk4.trans kd
            clear hp4 hk4 kd
            go_region_held3 (fun w' => w'.cell? ⟨w.heap.size, 0, none⟩ = some (.int .i64 (P : Int))) (first | with_reducible assumption | fail)
              (first
                | (go_at_call 41; go_fit (midn_any m.length _ HML.out.1 HML.out.2 (HTb.out.kp hkd)); rintro e w5 ⟨ai, I, ci, rfl, rI, pI, oI, lI, k5⟩
                   have hkI := hkd.trans k5
                   have hp6 := k5.cell hp5
                   have HI := Lib.hid (And.intro pI (And.intro (vlM_tab pI oI HML.out HML.out) oI)))
                | (go_at_call 17
                   have HMu := mmul_any ai a I m ci c (P : Int) _ rI (HM.out.kp hkI) lI hl (HTb.out.kp hkI)
                   rw [idn_mul HVM.out HI.out.2.1 HP.out.1 HP.out.2 HI.out.1] at HMu
                   go_fit HMu
                   rintro e w6 ⟨aM, M, cM, rfl, rM, pM, oM, lM, k6⟩
                   have hk6 := hkI.trans k6
                   have hp7 := k6.cell hp6)
                | fail)
            have VM := Lib.hid (vlM_tab pM oM (vlM_iff.1 HVM.out).1 (vlM_iff.1 HVM.out).2.1)
            have HIN := Lib.hid (idn_ins HVM.out (atP_okI HM.out HVM.out) HP.out.1 HP.out.2 pM)
            have HPM := Lib.hid (And.intro pM oM)
            clear pI oI rI lI k5 k6 hkI hkd hp5 hp6 pM oM HI
            go_wp2_with fail
            go_fit (minside_any m M a aM c cM _ (HM.out.kp hk6) rM hl lM HVM.out VM.out)
            rintro e w7 ⟨rfl, k7⟩
            rw [HIN.out]
            have hk7 := hk6.trans k7
            have hp8 := k7.cell hp7
            have rM7 := Lib.hid (rM.kp k7)
            clear hk6 hp7 k7 rM HIN
            go_wp2_with fail
            go_fit (mtrans_any a m c _ (HM.out.kp hk7) hl)
            rintro e w8 ⟨aT, T, cT, rfl, rT, pT, oT, lT, k8⟩
            rw [trF_pl HVM.out] at pT
            have VT := Lib.hid (vlM_trn HVM.out pT oT)
            have PT := Lib.hid pT
            clear pT oT
            have hk8 := hk7.trans k8
            have hp9 := k8.cell hp8
            have rM8 := Lib.hid (rM7.out.kp k8)
            clear hk7 hp8 k8 rM7
            go_wp2_with fail
            go_fit (mtrans_any aT T cT _ rT lT)
            rintro e w9 ⟨aU, U, cU, rfl, rU, pU, oU, lU, k9⟩
            rw [trF_pl VT.out] at pU
            have HSM := Lib.hid (sameM_pl rU HM.out oU (okM_vl HVM.out) (trn_two HVM.out PT.out pU))
            clear pU oU rT lT VT PT
            have hk9 := hk8.trans k9
            have hp10 := k9.cell hp9
            have rM9 := Lib.hid (rM8.out.kp k9)
            clear hk8 hp9 k9 rM8
            go_wp2_with fail
            go_fit (same7mat_any U m aU a cU c _ rU (HM.out.kp hk9) lU)
            rintro e w10 ⟨rfl, k10⟩
            rw [HSM.out]
            have hk10 := hk9.trans k10
            have hp11 := k10.cell hp10
            have rM10 := Lib.hid (rM9.out.kp k10)
            clear hk9 hp10 k10 rM9 rU lU HSM
            go_wp2_with fail
            go_fit (containsR a m c 44 #[.pointer (some ⟨w.heap.size, 0, none⟩)] _ (fun r => r.any (manyI P)) hl (HM.out.kp hk10) ⟨fun _ _ => by kernel_rfl, fun x hx a1 c1 w1 k1 h1 => few_any x a1 c1 P _ w1 h1.1 h1.2 ((vlM_iff.1 HVM.out).2.2 x hx).2 (k1.cell hp11)⟩)
            rintro e w11 ⟨rfl, k11⟩
            have hk11 := hk10.trans k11
            have hp12 := k11.cell hp11
            have rM11 := Lib.hid (rM10.out.kp k11)
            clear hk10 hp11 k11 rM10
            have HFW := Lib.hid (fun hf => sameM_pl rM11.out HM.out HPM.out.2 (okM_vl HVM.out) (idn_eq HVM.out (atP_okI HM.out HVM.out) HP.out.1 HP.out.2 HPM.out.1 (few_of (P := P) HM.out HVM.out hf)))
            obtain ⟨B, hB⟩ : ∃ B, B = m.any fun r => r.any (manyI P) := ⟨_, rfl⟩
            rw [← hB] at HFW
            rw [← hB]
            clear hB HPM
            cases B with
            | true =>
              clear HFW rM11
              go_wp2_with fail
              go_upto_region 11 with fail
              obtain ⟨F, hF⟩ : ∃ F, F = (mulC m n (P : Int)).2 := ⟨_, rfl⟩
              have HMx := mmul_any a b m n c d (P : Int) _ (HM.out.kp hk11) (HN.out.kp hk11) hl hl2 (HTb.out.kp hk11)
              rw [← hF] at HMx
              have HF := Lib.hid hF
              clear hF
              go_wp2_with fail
              go_fit HMx
              rintro e w21 ⟨aX, X, cX, rfl, rX, pX, oX, lX, k21⟩
              have hk21 := hk11.trans k21
              have hp21 := k21.cell hp12
              have HX := Lib.hid (And.intro pX oX)
              clear k21 HMx hk11 hp12 pX oX
              go_upto_region 12 with fail
              have kd := (Kp.refl w21).drew
              have hp22 := kd.cell hp21
              have hk22 := hk21.trans kd
              have rX2 := Lib.hid (rX.kp kd)
              clear hp21 hk21 kd rX
              go_region_held3 (fun w' => w'.cell? ⟨w.heap.size, 0, none⟩ = some (.int .i64 (P : Int))) (first | with_reducible assumption | fail)
                (first
                  | (go_at_call 42; go_fit (mtrans_any b n d _ (HN.out.kp hk22) hl2); rintro e w23 ⟨aS, S, cS, rfl, rS, pS, oS, lS, k23⟩
                     rw [trF_pl HVN.out] at pS
                     have VS := Lib.hid (vlM_trn HVN.out pS oS)
                     have PS := Lib.hid pS
                     have hk23 := hk22.trans k23
                     have rX3 := Lib.hid (rX2.out.kp k23)
                     have hp23 := k23.cell hp22
                     clear pS oS)
                  | (go_at_call 42; go_fit (mtrans_any a m c _ (HM.out.kp hk23) hl); rintro e w24 ⟨aT, T, cT, rfl, rT, pT, oT, lT, k24⟩
                     rw [trF_pl HVM.out] at pT
                     have VT := Lib.hid (vlM_trn HVM.out pT oT)
                     have PT := Lib.hid pT
                     have hk24 := hk23.trans k24
                     have rS2 := Lib.hid (rS.kp k24)
                     have rX4 := Lib.hid (rX3.out.kp k24)
                     have hp24 := k24.cell hp23
                     clear pT oT)
                  | (go_at_call 17
                     have TC := turn_code HVM.out HVN.out VS.out VT.out HP.out.1 HP.out.2 PS.out PT.out
                     have HMy := mmul_any aS aT S T cS cT (P : Int) _ rS2.out rT lS lT (HTb.out.kp hk24)
                     rw [TC.1, ← HF.out] at HMy
                     have HTC := Lib.hid TC.2
                     clear TC
                     go_fit HMy
                     rintro e w25 ⟨aY, Y, cY, rfl, rY, pY, oY, lY, k25⟩
                     have hk25 := hk24.trans k25
                     have rX5 := Lib.hid (rX4.out.kp k25)
                     have HY := Lib.hid (And.intro pY oY)
                     have hp25 := k25.cell hp24)
                  | fail)
              clear HMy pY oY hp22 hp23 hp24 hp25 hk22 hk23 hk24 k23 k24 k25 rX2 rX3 rX4 rS rS2 rT lS lT
              by_cases h0 : F = 0
              · have VX := Lib.hid (mulC_vl HVM.out HVN.out HP.out.1 HP.out.2 (HF.out.symm.trans h0) HX.out.1 HX.out.2)
                have HT2 := Lib.hid (HTC.out (HF.out.symm.trans h0))
                subst h0
                go_wp2_with fail
                go_fit (mtrans_any aX X cX _ rX5.out lX)
                rintro e w26 ⟨aV, V, cV, rfl, rV, pV, oV, lV, k26⟩
                rw [trF_pl VX.out] at pV
                have HSV := Lib.hid (sameM_pl rV (rY.kp k26) oV HY.out.2 ((HT2.out X V HX.out.1 pV).trans HY.out.1.symm))
                have hk26 := hk25.trans k26
                have rY6 := rY.kp k26
                clear pV oV k26 hk25
                go_wp2_with fail
                go_fit (same7mat_any V Y aV aY cV cY _ rV rY6 lV)
                rintro e w27 ⟨rfl, k27⟩
                rw [HSV.out]
                have hk27 := hk26.trans k27
                clear HSV
                go_wp2_with fail
                go_ret
                exact ⟨rfl, hk27⟩
              · have hb : (F == 0) = false := beq_eq_false_iff_ne.2 h0
                have hn : (F != 0) = true := by rw [bne, hb]; rfl
                clear h0
                go_wp2_with fail
                go_ret
                exact ⟨by first | rfl | simp, hk25⟩
            | false =>
              have HSM := Lib.hid (HFW.out rfl)
              clear HFW
              go_wp2_with fail
              go_fit (same7mat_any M m aM a cM c _ rM11.out (HM.out.kp hk11) lM)
              rintro e w12 ⟨rfl, k12⟩
              rw [HSM.out]
              have hk12 := hk11.trans k12
              have hp13 := k12.cell hp12
              clear HSM k12 hk11 hp12 rM11
              go_wp2_with fail
              go_upto_region 11 with fail
              obtain ⟨F, hF⟩ : ∃ F, F = (mulC m n (P : Int)).2 := ⟨_, rfl⟩
              have HMx := mmul_any a b m n c d (P : Int) _ (HM.out.kp hk12) (HN.out.kp hk12) hl hl2 (HTb.out.kp hk12)
              rw [← hF] at HMx
              have HF := Lib.hid hF
              clear hF
              go_wp2_with fail
              go_fit HMx
              rintro e w21 ⟨aX, X, cX, rfl, rX, pX, oX, lX, k21⟩
              have hk21 := hk12.trans k21
              have hp21 := k21.cell hp13
              have HX := Lib.hid (And.intro pX oX)
              clear k21 HMx hk12 hp13 pX oX
              go_upto_region 12 with fail
              have kd := (Kp.refl w21).drew
              have hp22 := kd.cell hp21
              have hk22 := hk21.trans kd
              have rX2 := Lib.hid (rX.kp kd)
              clear hp21 hk21 kd rX
              go_region_held3 (fun w' => w'.cell? ⟨w.heap.size, 0, none⟩ = some (.int .i64 (P : Int))) (first | with_reducible assumption | fail)
                (first
                  | (go_at_call 42; go_fit (mtrans_any b n d _ (HN.out.kp hk22) hl2); rintro e w23 ⟨aS, S, cS, rfl, rS, pS, oS, lS, k23⟩
                     rw [trF_pl HVN.out] at pS
                     have VS := Lib.hid (vlM_trn HVN.out pS oS)
                     have PS := Lib.hid pS
                     have hk23 := hk22.trans k23
                     have rX3 := Lib.hid (rX2.out.kp k23)
                     have hp23 := k23.cell hp22
                     clear pS oS)
                  | (go_at_call 42; go_fit (mtrans_any a m c _ (HM.out.kp hk23) hl); rintro e w24 ⟨aT, T, cT, rfl, rT, pT, oT, lT, k24⟩
                     rw [trF_pl HVM.out] at pT
                     have VT := Lib.hid (vlM_trn HVM.out pT oT)
                     have PT := Lib.hid pT
                     have hk24 := hk23.trans k24
                     have rS2 := Lib.hid (rS.kp k24)
                     have rX4 := Lib.hid (rX3.out.kp k24)
                     have hp24 := k24.cell hp23
                     clear pT oT)
                  | (go_at_call 17
                     have TC := turn_code HVM.out HVN.out VS.out VT.out HP.out.1 HP.out.2 PS.out PT.out
                     have HMy := mmul_any aS aT S T cS cT (P : Int) _ rS2.out rT lS lT (HTb.out.kp hk24)
                     rw [TC.1, ← HF.out] at HMy
                     have HTC := Lib.hid TC.2
                     clear TC
                     go_fit HMy
                     rintro e w25 ⟨aY, Y, cY, rfl, rY, pY, oY, lY, k25⟩
                     have hk25 := hk24.trans k25
                     have rX5 := Lib.hid (rX4.out.kp k25)
                     have HY := Lib.hid (And.intro pY oY)
                     have hp25 := k25.cell hp24)
                  | fail)
              clear HMy pY oY hp22 hp23 hp24 hp25 hk22 hk23 hk24 k23 k24 k25 rX2 rX3 rX4 rS rS2 rT lS lT
              by_cases h0 : F = 0
              · have VX := Lib.hid (mulC_vl HVM.out HVN.out HP.out.1 HP.out.2 (HF.out.symm.trans h0) HX.out.1 HX.out.2)
                have HT2 := Lib.hid (HTC.out (HF.out.symm.trans h0))
                subst h0
                go_wp2_with fail
                go_fit (mtrans_any aX X cX _ rX5.out lX)
                rintro e w26 ⟨aV, V, cV, rfl, rV, pV, oV, lV, k26⟩
                rw [trF_pl VX.out] at pV
                have HSV := Lib.hid (sameM_pl rV (rY.kp k26) oV HY.out.2 ((HT2.out X V HX.out.1 pV).trans HY.out.1.symm))
                have hk26 := hk25.trans k26
                have rY6 := rY.kp k26
                clear pV oV k26 hk25
                go_wp2_with fail
                go_fit (same7mat_any V Y aV aY cV cY _ rV rY6 lV)
                rintro e w27 ⟨rfl, k27⟩
                rw [HSV.out]
                have hk27 := hk26.trans k27
                clear HSV
                go_wp2_with fail
                go_ret
                exact ⟨rfl, hk27⟩
              · have hb : (F == 0) = false := beq_eq_false_iff_ne.2 h0
                have hn : (F != 0) = true := by rw [bne, hb]; rfl
                clear h0
                go_wp2_with fail
                go_ret
                exact ⟨by first | rfl | simp, hk25⟩
end Go.Proofs.YtdidocdpjiiedaaGreatDoor
