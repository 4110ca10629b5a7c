/-
  Walks: the law BoxLattice, one of its ways.
-/
import Derived.Test.YtkohlmlmoapedaaDoorMLawL
namespace Go.Proofs.YtkohlmlmoapedaaDoor
open Go.RowKit

set_option maxRecDepth 100000 in
set_option maxHeartbeats 32000000 in
theorem Lattice_run1 (a b d : Option Addr) (zs ys cs : List RI) (ca cb cd : Nat) (w : World) (hz : RowI w a zs) (hzl : zs.length ≤ 1100000) (hy : RowI w b ys) (hyl : ys.length ≤ 1100000) (hc : RowI w d cs) (hcl : cs.length ≤ 1100000) (hT : Tab w) (hg : goL zs ys cs = true) (hO : okB zs ys = true) (hE : insB zs ys = true) (hF : insB ys zs = false) (hI : intB zs ys = true) :
    Calls Tryd.prog 3 #[.slice a zs.length ca, .slice b ys.length cb, .slice d cs.length cd] w fun e w' => e = .returned (.bool true) ∧ Kp w w' := by
  have G := Lib.hid (goL_all hg)
  obtain ⟨v1, v2, hl⟩ := goL_true hg
  have oz := OkB.of hz v1
  have oy := OkB.of hy v2
  have L1 := Lib.hid (lat1 oz oy hl)
  have L2 := Lib.hid (lat2 oz oy hl)
  have L3 := Lib.hid (fun h1 h2 => lat3 oz oy hl hc h1 h2)
  have L5 := Lib.hid (fun h1 h2 => lat5 oz oy hl hc h1 h2)
  have HE6 := Lib.hid ((lat6 oz oy hl).trans hE)
  have HE9 := Lib.hid (show eqB zs ys = false by rw [lat9 oz oy hl, hE, hF]; rfl)
  have L11 := Lib.hid (lat11 oz)
  have L12 := Lib.hid (lat12 oz oy hl)
  have hml := meetB_len (ys := ys) hzl
  have hhl := hullB_len (ys := ys) hzl
  have hql := hullB_len (zs := ys) (ys := zs) hyl
  have HO := Lib.hid hO
  have HE := Lib.hid hE
  have HF := Lib.hid hF
  have HI := Lib.hid hI
  have L4 := Lib.hid (lat4 oz oy hl hO)
  have HE7 := Lib.hid ((lat7 oz oy hl hO).trans hE)
  clear hO hE hF hI hg v1 v2 hl oz oy
  go_enter Tryd.func3, Tryd.ntmps3
  go_upto_region 1 with fail
  go_cut [40] from 10 (fun s wx => s = .bool false ∧ Kp w wx)
  case first =>
    go_wp2_with fail
    refine (awake_ok _ hT).mono ?_
    rintro e w1 ⟨rfl, k1⟩
    have h1 := (Kp.refl w).trans k1
    clear k1
    go_wp2_with fail
    refine (large_any a none zs [] ca 0 _ (hz.kp h1) hzl (fun i x h => by simp at h) (by simp)).mono ?_
    rw [G.out.1]
    rintro e w2 ⟨rfl, k2⟩
    have h2 := h1.trans k2
    clear k2
    go_wp2_with fail
    refine (large_any b none ys [] cb 0 _ (hy.kp h2) hyl (fun i x h => by simp at h) (by simp)).mono ?_
    rw [G.out.2.1]
    rintro e w3 ⟨rfl, k3⟩
    have h3 := h2.trans k3
    clear k3
    go_wp2_with fail
    refine (large_any d none cs [] cd 0 _ (hc.kp h3) hcl (fun i x h => by simp at h) (by simp)).mono ?_
    rw [G.out.2.2.1]
    rintro e w4 ⟨rfl, k4⟩
    have h4 := h3.trans k4
    clear k4
    go_wp2_with fail
    refine (BValid_any a zs ca _ (hz.kp h4) hzl).mono ?_
    rw [G.out.2.2.2.1]
    rintro e w5 ⟨rfl, k5⟩
    have h5 := h4.trans k5
    clear k5
    go_wp2_with fail
    refine (BValid_any b ys cb _ (hy.kp h5) hyl).mono ?_
    rw [G.out.2.2.2.2.1]
    rintro e w6 ⟨rfl, k6⟩
    have h6 := h5.trans k6
    clear k6
    have hb : ((zs.length : Int) != (ys.length : Int)) = false := by have := G.out.2.2.2.2.2; simp; omega
    go_wp2_with fail
    go_meet
    case rel => exact ⟨rfl, h6⟩
  case rest =>
    obtain ⟨rfl, h9⟩ := hcut
    go_wp2_with fail
    refine (BHull_any a b zs ys ca cb _ (hz.kp h9) hzl (hy.kp h9) hyl).mono ?_
    rintro e wh ⟨ah, ch, rfl, hrh0, _, _, kh⟩
    go_wp2_with fail
    refine (BMeet_any a b zs ys ca cb _ (hz.kp (h9.trans kh)) hzl (hy.kp (h9.trans kh)) hyl).mono ?_
    intro e wm hmb
    obtain ⟨am, cm, rfl, hrm, _, _, km⟩ := meetsB_yes HO.out hmb
    clear hmb
    have h0 := (h9.trans kh).trans km
    have hrh := hrh0.kp km
    clear hrh0 kh km h9
    go_upto_region 5 with fail
    go_cut [76] from 10 (fun s wx => s = .bool false ∧ Kp wm wx)
    case first =>
      go_wp2_with fail
      refine (BInside_any a ah zs (hullB zs ys) ca ch _ (hz.kp (h0.trans (Kp.refl wm))) hzl (hrh.kp (Kp.refl wm)) hhl).mono ?_
      rw [L1.out]
      rintro e w1 ⟨rfl, k1⟩
      have h1 := (Kp.refl wm).trans k1
      clear k1
      go_wp2_with fail
      refine (BInside_any b ah ys (hullB zs ys) cb ch _ (hy.kp (h0.trans h1)) hyl (hrh.kp h1) hhl).mono ?_
      rw [L2.out]
      rintro e w2 ⟨rfl, k2⟩
      have h2 := h1.trans k2
      clear k2
      go_wp2_with fail
      refine (BInside_any a d zs cs ca cd _ (hz.kp (h0.trans h2)) hzl (hc.kp (h0.trans h2)) hcl).mono ?_
      rintro e w3 ⟨rfl, k3⟩
      have h3 := h2.trans k3
      clear k3
      cases eA : insB zs cs with
      | true =>
        have EA := Lib.hid eA
        clear eA
        go_wp2_with fail
        refine (BInside_any b d ys cs cb cd _ (hy.kp (h0.trans h3)) hyl (hc.kp (h0.trans h3)) hcl).mono ?_
        rintro e w4 ⟨rfl, k4⟩
        have h4 := h3.trans k4
        clear k4
        cases eB : insB ys cs with
        | true =>
          have EB := Lib.hid eB
          clear eB
          go_wp2_with fail
          have hL3 := L3.out EA.out EB.out
          have HL3 := Lib.hid hL3
          clear hL3
          refine (BInside_any ah d (hullB zs ys) cs ch cd _ (hrh.kp h4) hhl (hc.kp (h0.trans h4)) hcl).mono ?_
          rw [HL3.out]
          rintro e w5 ⟨rfl, k5⟩
          have h5 := h4.trans k5
          clear k5
          go_wp2_with fail
          go_meet
          case rel => exact ⟨rfl, h5⟩
        | false =>
          have EB := Lib.hid eB
          clear eB
          go_wp2_with fail
          go_meet
          case rel => exact ⟨rfl, h4⟩
      | false =>
        have EA := Lib.hid eA
        clear eA
        go_wp2_with fail
        go_meet
        case rel => exact ⟨rfl, h3⟩
    case rest =>
      obtain ⟨rfl, k5⟩ := hcut
      replace h0 := h0.trans k5
      replace hrh := hrh.kp k5
      replace hrm := hrm.kp k5
      clear k5
      obtain ⟨wa, hwwa⟩ : ∃ x : World, x = wc := ⟨_, rfl⟩
      subst hwwa
      go_upto_region 7 with fail
      go_cut [89] from 10 (fun s wx => s = .bool false ∧ Kp wa wx)
      case first =>
        go_wp2_with fail
        refine (BInside_any am a (meetB zs ys) zs cm ca _ (hrm.kp (Kp.refl wa)) hml (hz.kp (h0.trans (Kp.refl wa))) hzl).mono ?_
        rw [L4.out.1]
        rintro e w1 ⟨rfl, k1⟩
        have h1 := (Kp.refl wa).trans k1
        clear k1
        go_wp2_with fail
        refine (BInside_any am b (meetB zs ys) ys cm cb _ (hrm.kp h1) hml (hy.kp (h0.trans h1)) hyl).mono ?_
        rw [L4.out.2]
        rintro e w2 ⟨rfl, k2⟩
        have h2 := h1.trans k2
        clear k2
        go_wp2_with fail
        go_meet
        case rel => exact ⟨rfl, h2⟩
      case rest =>
        obtain ⟨rfl, k7⟩ := hcut
        replace h0 := h0.trans k7
        replace hrh := hrh.kp k7
        replace hrm := hrm.kp k7
        clear k7
        obtain ⟨wb, hwwb⟩ : ∃ x : World, x = wc := ⟨_, rfl⟩
        subst hwwb
        go_upto_region 9 with fail
        go_cut [107] from 10 (fun s wx => s = .bool false ∧ Kp wb wx)
        case first =>
          go_wp2_with fail
          refine (BInside_any d a cs zs cd ca _ (hc.kp (h0.trans (Kp.refl wb))) hcl (hz.kp (h0.trans (Kp.refl wb))) hzl).mono ?_
          rintro e w1 ⟨rfl, k1⟩
          have h1 := (Kp.refl wb).trans k1
          clear k1
          cases eP : insB cs zs with
          | true =>
            have EP := Lib.hid eP
            clear eP
            go_wp2_with fail
            refine (BInside_any d b cs ys cd cb _ (hc.kp (h0.trans h1)) hcl (hy.kp (h0.trans h1)) hyl).mono ?_
            rintro e w2 ⟨rfl, k2⟩
            have h2 := h1.trans k2
            clear k2
            cases eQ : insB cs ys with
            | true =>
              have EQ := Lib.hid eQ
              clear eQ
              go_wp2_with fail
              have HL5 := Lib.hid (L5.out EP.out EQ.out).2
              refine (BInside_any d am cs (meetB zs ys) cd cm _ (hc.kp (h0.trans h2)) hcl (hrm.kp h2) hml).mono ?_
              rw [HL5.out]
              rintro e w3 ⟨rfl, k3⟩
              have h3 := h2.trans k3
              clear k3
              go_wp2_with fail
              go_meet
              case rel => exact ⟨rfl, h3⟩
            | false =>
              have EQ := Lib.hid eQ
              clear eQ
              go_wp2_with fail
              go_meet
              case rel => exact ⟨rfl, h2⟩
          | false =>
            have EP := Lib.hid eP
            clear eP
            go_wp2_with fail
            go_meet
            case rel => exact ⟨rfl, h1⟩
        case rest =>
          obtain ⟨rfl, k9⟩ := hcut
          replace h0 := h0.trans k9
          replace hrh := hrh.kp k9
          replace hrm := hrm.kp k9
          clear k9
          obtain ⟨wc2, hwwc2⟩ : ∃ x : World, x = wc := ⟨_, rfl⟩
          subst hwwc2
          go_upto_region 11 with fail
          go_cut [126] from 10 (fun s wx => s = .bool false ∧ Kp wc2 wx)
          case first =>
            go_wp2_with fail
            refine (BInside_any a b zs ys ca cb _ (hz.kp (h0.trans (Kp.refl wc2))) hzl (hy.kp (h0.trans (Kp.refl wc2))) hyl).mono ?_
            rw [HE.out]
            rintro e w1 ⟨rfl, k1⟩
            have h1 := (Kp.refl wc2).trans k1
            clear k1
            go_wp2_with fail
            refine (BEqual_any ah b (hullB zs ys) ys ch cb _ (hrh.kp h1) hhl (hy.kp (h0.trans h1)) hyl).mono ?_
            rw [HE6.out]
            rintro e w2 ⟨rfl, k2⟩
            have h2 := h1.trans k2
            clear k2
            go_wp2_with fail
            refine (BInside_any a b zs ys ca cb _ (hz.kp (h0.trans h2)) hzl (hy.kp (h0.trans h2)) hyl).mono ?_
            rw [HE.out]
            rintro e w3 ⟨rfl, k3⟩
            have h3 := h2.trans k3
            clear k3
            go_wp2_with fail
            refine (BEqual_any am a (meetB zs ys) zs cm ca _ (hrm.kp h3) hml (hz.kp (h0.trans h3)) hzl).mono ?_
            rw [HE7.out]
            rintro e w4 ⟨rfl, k4⟩
            have h4 := h3.trans k4
            clear k4
            go_wp2_with fail
            go_meet
            case rel => exact ⟨rfl, h4⟩
          case rest =>
            obtain ⟨rfl, k11⟩ := hcut
            replace h0 := h0.trans k11
            replace hrh := hrh.kp k11
            clear k11
            obtain ⟨wd, hwwd⟩ : ∃ x : World, x = wc := ⟨_, rfl⟩
            subst hwwd
            have hend := h0
            go_wp2_with fail
            refine (BEqual_any a b zs ys ca cb _ (hz.kp (h0.trans (Kp.refl wd))) hzl (hy.kp (h0.trans (Kp.refl wd))) hyl).mono ?_
            rw [HE9.out]
            rintro e w1 ⟨rfl, k1⟩
            have h1 := (Kp.refl wd).trans k1
            clear k1
            go_wp2_with fail
            refine (BInside_any a b zs ys ca cb _ (hz.kp (h0.trans h1)) hzl (hy.kp (h0.trans h1)) hyl).mono ?_
            rw [HE.out]
            rintro e w2 ⟨rfl, k2⟩
            have h2 := h1.trans k2
            clear k2
            go_wp2_with fail
            refine (BInside_any b a ys zs cb ca _ (hy.kp (h0.trans h2)) hyl (hz.kp (h0.trans h2)) hzl).mono ?_
            rw [HF.out]
            rintro e w3 ⟨rfl, k3⟩
            have h3 := h2.trans k3
            clear k3
            go_wp2_with fail
            refine (BInterior_any a b zs ys ca cb _ (hz.kp (h0.trans h3)) hzl (hy.kp (h0.trans h3)) hyl).mono ?_
            rw [HI.out]
            rintro e w4 ⟨rfl, k4⟩
            have h4 := h3.trans k4
            clear k4
            go_wp2_with fail
            refine (BInside_any a b zs ys ca cb _ (hz.kp (h0.trans h4)) hzl (hy.kp (h0.trans h4)) hyl).mono ?_
            rw [HE.out]
            rintro e w5 ⟨rfl, k5⟩
            have h5 := h4.trans k5
            clear k5
            go_wp2_with fail
            refine (BInside_any b a ys zs cb ca _ (hy.kp (h0.trans h5)) hyl (hz.kp (h0.trans h5)) hzl).mono ?_
            rw [HF.out]
            rintro e w6 ⟨rfl, k6⟩
            have h6 := h5.trans k6
            clear k6
            go_wp2_with fail
            refine (BInside_any a a zs zs ca ca _ (hz.kp (h0.trans h6)) hzl (hz.kp (h0.trans h6)) hzl).mono ?_
            rw [L11.out]
            rintro e w7 ⟨rfl, k7⟩
            have h7 := h6.trans k7
            clear k7
            go_wp2_with fail
            refine (BHull_any b a ys zs cb ca _ (hy.kp (h0.trans h7)) hyl (hz.kp (h0.trans h7)) hzl).mono ?_
            rintro e w8 ⟨aq, cq, rfl, hrq, _, _, k8⟩
            have h8 := h7.trans k8
            clear k8
            go_wp2_with fail
            refine (BEqual_any aq ah (hullB ys zs) (hullB zs ys) cq ch _ hrq hql (hrh.kp h8) hhl).mono ?_
            rw [L12.out]
            rintro e w9 ⟨rfl, k9⟩
            have h9 := h8.trans k9
            clear k9
            go_wp2_with fail
            go_ret
            exact ⟨rfl, hend.trans h9⟩
end Go.Proofs.YtkohlmlmoapedaaDoor
