/-
  Walks: the law BoxPoints.
-/
import Derived.Test.YtkohlmlmoapedaaDoorMLawC
import Derived.Test.YtkohlmlmoapedaaDoorMBoxP
import Derived.Deep.Cut
namespace Go.Proofs.YtkohlmlmoapedaaDoor
open Go.RowKit

/-- does the law BoxPoints look? -/
def goP (zs ys : List RI) (ps : List RD) : Bool := !lrg zs ps && (!lrg ys [] && (vlB zs && (vlB ys && decide (zs.length = ys.length))))
theorem goP_true {zs ys : List RI} {ps : List RD} (h : goP zs ys ps = true) : lrg zs ps = false ∧ lrg ys [] = false ∧ vlB zs = true ∧ vlB ys = true ∧ zs.length = ys.length := by
  unfold goP at h
  simp only [Bool.and_eq_true, Bool.not_eq_true', decide_eq_true_eq] at h
  exact h
theorem meetsB_yes {w w' : World} {zs ys : List RI} {e : Ending} (h : okB zs ys = true) (hm : MeetsB w zs ys e w') : ∃ a c, e = .returned (.tuple #[.slice a (meetB zs ys).length c, .bool true]) ∧ RowI w' a (meetB zs ys) ∧ (meetB zs ys).length ≤ c ∧ c ≤ maxLen ∧ Kp w w' := by
  unfold MeetsB at hm; rw [h] at hm; exact hm
theorem meetsB_none {w w' : World} {zs ys : List RI} {e : Ending} (h : okB zs ys = false) (hm : MeetsB w zs ys e w') : e = .returned (.tuple #[.slice none 0 0, .bool false]) ∧ Kp w w' := by
  unfold MeetsB at hm; rw [h] at hm; exact hm
theorem meetB_len {zs ys : List RI} (h : zs.length ≤ 1100000) : (meetB zs ys).length ≤ 1100000 := by unfold meetB; simp; omega
theorem hullB_len {zs ys : List RI} (h : zs.length ≤ 1100000) : (hullB zs ys).length ≤ 1100000 := by
  unfold hullB; split
  · simp; omega
  · simp
theorem ptsB_len {ps : List RD} (h : ps.length ≤ 1100000) : (ptsB ps).length ≤ 1100000 := by
  unfold ptsB; split
  · simpa using h
  · simp
set_option maxRecDepth 100000 in
set_option maxHeartbeats 16000000 in
theorem BoxPoints_ok (a b d : Option Addr) (zs ys : List RI) (ps : List RD) (ca cb cd : Nat) (w : World) (hz : RowI w a zs) (hzl : zs.length ≤ 1100000) (hy : RowI w b ys) (hyl : ys.length ≤ 1100000) (hp : RowD w d ps) (hpl : ps.length ≤ 1100000) (hT : Tab w) :
    Calls Tryd.prog 4 #[.slice a zs.length ca, .slice b ys.length cb, .slice d ps.length cd] w fun e w' => e = .returned (.bool true) ∧ Kp w w' := by
  go_enter Tryd.func4, Tryd.ntmps4
  go_upto_region 1 with fail
  go_cut [37] from 10 (fun s wx => s = .bool (!goP zs ys ps) ∧ Kp w wx)
  case first =>
    go_wp2_with fail
    refine (awake_ok _ hT).mono ?_
    rintro e w1 ⟨rfl, k1⟩
    have h1 := (Kp.refl w).trans k1
    clear k1
    go_wp2_with fail

    refine (large_any a d zs ps ca cd _ (hz.kp h1) hzl (hp.kp h1) hpl).mono ?_
    rintro e w2 ⟨rfl, k2⟩
    have h2 := h1.trans k2
    clear k2
    cases e0 : lrg zs ps with
    | true =>
      have Hg := Lib.hid (show goP zs ys ps = false by unfold goP; simp [e0])
      clear e0
      go_wp2_with fail
      go_meet
      case rel => exact ⟨by rw [Hg.out]; rfl, h2⟩
    | false =>
      go_wp2_with fail
      refine (large_any b none ys [] cb 0 _ (hy.kp h2) hyl (fun i x h => by simp at h) (by simp)).mono ?_
      rintro e w3 ⟨rfl, k3⟩
      have h3 := h2.trans k3
      clear k3
      cases e1 : lrg ys [] with
      | true =>
        have Hg := Lib.hid (show goP zs ys ps = false by unfold goP; simp [e1])
        clear e0 e1
        go_wp2_with fail
        go_meet
        case rel => exact ⟨by rw [Hg.out]; rfl, h3⟩
      | false =>
        go_wp2_with fail
        refine (BValid_any a zs ca _ (hz.kp h3) hzl).mono ?_
        rintro e w4 ⟨rfl, k4⟩
        have h4 := h3.trans k4
        clear k4
        cases e2 : vlB zs with
        | true =>
          go_wp2_with fail
          refine (BValid_any b ys cb _ (hy.kp h4) hyl).mono ?_
          rintro e w5 ⟨rfl, k5⟩
          have h5 := h4.trans k5
          clear k5
          cases e3 : vlB ys with
          | true =>
            by_cases hl : zs.length = ys.length
            · have hb : ((zs.length : Int) != (ys.length : Int)) = false := by simp; omega
              have Hg := Lib.hid (show goP zs ys ps = true by unfold goP; simp [e0, e1, e2, e3, hl])
              clear hl e0 e1 e2 e3
              go_wp2_with fail
              go_meet
              case rel => exact ⟨by rw [Hg.out]; rfl, h5⟩
            · have hb : ((zs.length : Int) != (ys.length : Int)) = true := by simp; omega
              have Hg := Lib.hid (show goP zs ys ps = false by unfold goP; simp [hl])
              clear hl e0 e1 e2 e3
              go_wp2_with fail
              go_meet
              case rel => exact ⟨by rw [Hg.out]; rfl, h5⟩
          | false =>
            have Hg := Lib.hid (show goP zs ys ps = false by unfold goP; simp [e3])
            clear e0 e1 e2 e3
            go_wp2_with fail
            go_meet
            case rel => exact ⟨by rw [Hg.out]; rfl, h5⟩
        | false =>
          have Hg := Lib.hid (show goP zs ys ps = false by unfold goP; simp [e2])
          clear e0 e1 e2
          go_wp2_with fail
          go_meet
          case rel => exact ⟨by rw [Hg.out]; rfl, h4⟩
  case rest =>
    obtain ⟨rfl, h9⟩ := hcut
    cases hg : goP zs ys ps with
    | false =>
      clear hg
      rw [Bool.not_false]
      go_wp2_with fail
      refine (awake_ok _ (hT.kp h9)).mono ?_
      rintro e w10 ⟨rfl, k10⟩
      go_wp2_with fail
      go_ret
      exact ⟨rfl, h9.trans k10⟩
    | true =>
      obtain ⟨_, _, v1, v2, hl⟩ := goP_true hg
      have oz := OkB.of hz v1
      have oy := OkB.of hy v2
      have P1 := pts1 oz oy hl (ps := ps)
      have P2 := Lib.hid (pts2 oz oy hl hp)
      have P3 := Lib.hid (fun k : hasB zs ps = true => pts3 oz oy hl k)
      have hml := meetB_len (ys := ys) hzl
      have hhl := hullB_len (ys := ys) hzl
      have hql := ptsB_len hpl
      clear hg v1 v2 hl oz oy
      rw [Bool.not_true]
      cases hO : okB zs ys with
      | false =>
        have HO := Lib.hid hO
        rw [hO] at P1
        clear hO
        cases hU : hasB zs ps with
        | false =>
          have HU := Lib.hid hU
          rw [hU] at P1
          have HP := Lib.hid (P2.out.symm.trans hU)
          clear hU
          clear P1
          go_wp2_with fail
          refine (BMeet_any a b zs ys ca cb _ (hz.kp h9) hzl (hy.kp h9) hyl).mono ?_
          intro e w10 hmb
          obtain ⟨rfl, k10⟩ := meetsB_none HO.out hmb
          clear hmb
          have h10 := h9.trans k10
          clear k10
          go_wp2_with fail
          refine (BHas_any a d zs ps ca cd _ (hz.kp h10) hzl (hp.kp h10) hpl).mono ?_
          rw [HU.out]
          rintro e w11 ⟨rfl, k11⟩
          have h11 := h10.trans k11
          clear k11
          go_wp2_with fail
          refine (BHas_any a d zs ps ca cd _ (hz.kp h11) hzl (hp.kp h11) hpl).mono ?_
          rw [HU.out]
          rintro e w12 ⟨rfl, k12⟩
          have h12 := h11.trans k12
          clear k12
          go_wp2_with fail
          refine (BPoints_any d ps cd _ (hp.kp h12) hpl).mono ?_
          rintro e w13 ⟨aq, cq, rfl, hrq, _, _, k13⟩
          have h13 := h12.trans k13
          clear k13
          go_wp2_with fail
          refine (BInside_any aq a (ptsB ps) zs cq ca _ hrq hql (hz.kp h13) hzl).mono ?_
          rw [HP.out]
          rintro e w14 ⟨rfl, k14⟩
          have h14 := h13.trans k14
          clear k14
          go_wp2_with fail
          refine (BHas_any a d zs ps ca cd _ (hz.kp h14) hzl (hp.kp h14) hpl).mono ?_
          rw [HU.out]
          rintro e w15 ⟨rfl, k15⟩
          have h15 := h14.trans k15
          clear k15
          go_wp2_with fail
          go_ret
          exact ⟨rfl, h15⟩
        | true =>
          have HU := Lib.hid hU
          rw [hU] at P1
          have HP := Lib.hid (P2.out.symm.trans hU)
          have HH := Lib.hid (P3.out hU)
          clear hU
          cases hV : hasB ys ps with
          | false =>
            have HV := Lib.hid hV
            rw [hV] at P1
            clear hV
            clear P1
            go_wp2_with fail
            refine (BMeet_any a b zs ys ca cb _ (hz.kp h9) hzl (hy.kp h9) hyl).mono ?_
            intro e w10 hmb
            obtain ⟨rfl, k10⟩ := meetsB_none HO.out hmb
            clear hmb
            have h10 := h9.trans k10
            clear k10
            go_wp2_with fail
            refine (BHas_any a d zs ps ca cd _ (hz.kp h10) hzl (hp.kp h10) hpl).mono ?_
            rw [HU.out]
            rintro e w11 ⟨rfl, k11⟩
            have h11 := h10.trans k11
            clear k11
            go_wp2_with fail
            refine (BHas_any b d ys ps cb cd _ (hy.kp h11) hyl (hp.kp h11) hpl).mono ?_
            rw [HV.out]
            rintro e w12 ⟨rfl, k12⟩
            have h12 := h11.trans k12
            clear k12
            go_wp2_with fail
            refine (BHas_any a d zs ps ca cd _ (hz.kp h12) hzl (hp.kp h12) hpl).mono ?_
            rw [HU.out]
            rintro e w13 ⟨rfl, k13⟩
            have h13 := h12.trans k13
            clear k13
            go_wp2_with fail
            refine (BPoints_any d ps cd _ (hp.kp h13) hpl).mono ?_
            rintro e w14 ⟨aq, cq, rfl, hrq, _, _, k14⟩
            have h14 := h13.trans k14
            clear k14
            go_wp2_with fail
            refine (BInside_any aq a (ptsB ps) zs cq ca _ hrq hql (hz.kp h14) hzl).mono ?_
            rw [HP.out]
            rintro e w15 ⟨rfl, k15⟩
            have h15 := h14.trans k15
            clear k15
            go_wp2_with fail
            refine (BHas_any a d zs ps ca cd _ (hz.kp h15) hzl (hp.kp h15) hpl).mono ?_
            rw [HU.out]
            rintro e w16 ⟨rfl, k16⟩
            have h16 := h15.trans k16
            clear k16
            go_wp2_with fail
            refine (BHull_any a b zs ys ca cb _ (hz.kp h16) hzl (hy.kp h16) hyl).mono ?_
            rintro e w17 ⟨ah, ch, rfl, hrh, _, _, k17⟩
            have h17 := h16.trans k17
            clear k17
            go_wp2_with fail
            refine (BHas_any ah d (hullB zs ys) ps ch cd _ hrh hhl (hp.kp h17) hpl).mono ?_
            rw [HH.out]
            rintro e w18 ⟨rfl, k18⟩
            have h18 := h17.trans k18
            clear k18
            go_wp2_with fail
            go_ret
            exact ⟨rfl, h18⟩
          | true =>
            have HV := Lib.hid hV
            rw [hV] at P1
            clear hV
            simp at P1
      | true =>
        have HO := Lib.hid hO
        rw [hO] at P1
        clear hO
        cases hU : hasB zs ps with
        | false =>
          have HU := Lib.hid hU
          rw [hU] at P1
          have HP := Lib.hid (P2.out.symm.trans hU)
          clear hU
          have HM := Lib.hid (show hasB (meetB zs ys) ps = false by simpa using P1.symm)
          clear P1
          go_wp2_with fail
          refine (BMeet_any a b zs ys ca cb _ (hz.kp h9) hzl (hy.kp h9) hyl).mono ?_
          intro e w10 hmb
          obtain ⟨am, cm, rfl, hrm, _, _, k10⟩ := meetsB_yes HO.out hmb
          clear hmb
          have h10 := h9.trans k10
          clear k10
          go_wp2_with fail
          refine (BHas_any a d zs ps ca cd _ (hz.kp h10) hzl (hp.kp h10) hpl).mono ?_
          rw [HU.out]
          rintro e w11 ⟨rfl, k11⟩
          have h11 := h10.trans k11
          go_wp2_with fail
          refine (BHas_any am d (meetB zs ys) ps cm cd _ (hrm.kp k11) hml (hp.kp h11) hpl).mono ?_
          rw [HM.out]
          rintro e w12 ⟨rfl, k12⟩
          have h12 := h11.trans k12
          clear k12
          go_wp2_with fail
          refine (BHas_any a d zs ps ca cd _ (hz.kp h12) hzl (hp.kp h12) hpl).mono ?_
          rw [HU.out]
          rintro e w13 ⟨rfl, k13⟩
          have h13 := h12.trans k13
          clear k13
          go_wp2_with fail
          refine (BPoints_any d ps cd _ (hp.kp h13) hpl).mono ?_
          rintro e w14 ⟨aq, cq, rfl, hrq, _, _, k14⟩
          have h14 := h13.trans k14
          clear k14
          go_wp2_with fail
          refine (BInside_any aq a (ptsB ps) zs cq ca _ hrq hql (hz.kp h14) hzl).mono ?_
          rw [HP.out]
          rintro e w15 ⟨rfl, k15⟩
          have h15 := h14.trans k15
          clear k15
          go_wp2_with fail
          refine (BHas_any a d zs ps ca cd _ (hz.kp h15) hzl (hp.kp h15) hpl).mono ?_
          rw [HU.out]
          rintro e w16 ⟨rfl, k16⟩
          have h16 := h15.trans k16
          clear k16
          go_wp2_with fail
          go_ret
          exact ⟨rfl, h16⟩
        | true =>
          have HU := Lib.hid hU
          rw [hU] at P1
          have HP := Lib.hid (P2.out.symm.trans hU)
          have HH := Lib.hid (P3.out hU)
          clear hU
          cases hV : hasB ys ps with
          | false =>
            have HV := Lib.hid hV
            rw [hV] at P1
            clear hV
            have HM := Lib.hid (show hasB (meetB zs ys) ps = false by simpa using P1.symm)
            clear P1
            go_wp2_with fail
            refine (BMeet_any a b zs ys ca cb _ (hz.kp h9) hzl (hy.kp h9) hyl).mono ?_
            intro e w10 hmb
            obtain ⟨am, cm, rfl, hrm, _, _, k10⟩ := meetsB_yes HO.out hmb
            clear hmb
            have h10 := h9.trans k10
            clear k10
            go_wp2_with fail
            refine (BHas_any a d zs ps ca cd _ (hz.kp h10) hzl (hp.kp h10) hpl).mono ?_
            rw [HU.out]
            rintro e w11 ⟨rfl, k11⟩
            have h11 := h10.trans k11
            go_wp2_with fail
            refine (BHas_any b d ys ps cb cd _ (hy.kp h11) hyl (hp.kp h11) hpl).mono ?_
            rw [HV.out]
            rintro e w12 ⟨rfl, k12⟩
            have h12 := h11.trans k12
            go_wp2_with fail
            refine (BHas_any am d (meetB zs ys) ps cm cd _ (hrm.kp (k11.trans k12)) hml (hp.kp h12) hpl).mono ?_
            rw [HM.out]
            rintro e w13 ⟨rfl, k13⟩
            have h13 := h12.trans k13
            clear k13
            go_wp2_with fail
            refine (BHas_any a d zs ps ca cd _ (hz.kp h13) hzl (hp.kp h13) hpl).mono ?_
            rw [HU.out]
            rintro e w14 ⟨rfl, k14⟩
            have h14 := h13.trans k14
            clear k14
            go_wp2_with fail
            refine (BPoints_any d ps cd _ (hp.kp h14) hpl).mono ?_
            rintro e w15 ⟨aq, cq, rfl, hrq, _, _, k15⟩
            have h15 := h14.trans k15
            clear k15
            go_wp2_with fail
            refine (BInside_any aq a (ptsB ps) zs cq ca _ hrq hql (hz.kp h15) hzl).mono ?_
            rw [HP.out]
            rintro e w16 ⟨rfl, k16⟩
            have h16 := h15.trans k16
            clear k16
            go_wp2_with fail
            refine (BHas_any a d zs ps ca cd _ (hz.kp h16) hzl (hp.kp h16) hpl).mono ?_
            rw [HU.out]
            rintro e w17 ⟨rfl, k17⟩
            have h17 := h16.trans k17
            clear k17
            go_wp2_with fail
            refine (BHull_any a b zs ys ca cb _ (hz.kp h17) hzl (hy.kp h17) hyl).mono ?_
            rintro e w18 ⟨ah, ch, rfl, hrh, _, _, k18⟩
            have h18 := h17.trans k18
            clear k18
            go_wp2_with fail
            refine (BHas_any ah d (hullB zs ys) ps ch cd _ hrh hhl (hp.kp h18) hpl).mono ?_
            rw [HH.out]
            rintro e w19 ⟨rfl, k19⟩
            have h19 := h18.trans k19
            clear k19
            go_wp2_with fail
            go_ret
            exact ⟨rfl, h19⟩
          | true =>
            have HV := Lib.hid hV
            rw [hV] at P1
            clear hV
            have HM := Lib.hid (show hasB (meetB zs ys) ps = true by simpa using P1.symm)
            clear P1
            go_wp2_with fail
            refine (BMeet_any a b zs ys ca cb _ (hz.kp h9) hzl (hy.kp h9) hyl).mono ?_
            intro e w10 hmb
            obtain ⟨am, cm, rfl, hrm, _, _, k10⟩ := meetsB_yes HO.out hmb
            clear hmb
            have h10 := h9.trans k10
            clear k10
            go_wp2_with fail
            refine (BHas_any a d zs ps ca cd _ (hz.kp h10) hzl (hp.kp h10) hpl).mono ?_
            rw [HU.out]
            rintro e w11 ⟨rfl, k11⟩
            have h11 := h10.trans k11
            go_wp2_with fail
            refine (BHas_any b d ys ps cb cd _ (hy.kp h11) hyl (hp.kp h11) hpl).mono ?_
            rw [HV.out]
            rintro e w12 ⟨rfl, k12⟩
            have h12 := h11.trans k12
            go_wp2_with fail
            refine (BHas_any am d (meetB zs ys) ps cm cd _ (hrm.kp (k11.trans k12)) hml (hp.kp h12) hpl).mono ?_
            rw [HM.out]
            rintro e w13 ⟨rfl, k13⟩
            have h13 := h12.trans k13
            clear k13
            go_wp2_with fail
            refine (BHas_any a d zs ps ca cd _ (hz.kp h13) hzl (hp.kp h13) hpl).mono ?_
            rw [HU.out]
            rintro e w14 ⟨rfl, k14⟩
            have h14 := h13.trans k14
            clear k14
            go_wp2_with fail
            refine (BPoints_any d ps cd _ (hp.kp h14) hpl).mono ?_
            rintro e w15 ⟨aq, cq, rfl, hrq, _, _, k15⟩
            have h15 := h14.trans k15
            clear k15
            go_wp2_with fail
            refine (BInside_any aq a (ptsB ps) zs cq ca _ hrq hql (hz.kp h15) hzl).mono ?_
            rw [HP.out]
            rintro e w16 ⟨rfl, k16⟩
            have h16 := h15.trans k16
            clear k16
            go_wp2_with fail
            refine (BHas_any a d zs ps ca cd _ (hz.kp h16) hzl (hp.kp h16) hpl).mono ?_
            rw [HU.out]
            rintro e w17 ⟨rfl, k17⟩
            have h17 := h16.trans k17
            clear k17
            go_wp2_with fail
            refine (BHull_any a b zs ys ca cb _ (hz.kp h17) hzl (hy.kp h17) hyl).mono ?_
            rintro e w18 ⟨ah, ch, rfl, hrh, _, _, k18⟩
            have h18 := h17.trans k18
            clear k18
            go_wp2_with fail
            refine (BHas_any ah d (hullB zs ys) ps ch cd _ hrh hhl (hp.kp h18) hpl).mono ?_
            rw [HH.out]
            rintro e w19 ⟨rfl, k19⟩
            have h19 := h18.trans k19
            clear k19
            go_wp2_with fail
            go_ret
            exact ⟨rfl, h19⟩
end Go.Proofs.YtkohlmlmoapedaaDoor
