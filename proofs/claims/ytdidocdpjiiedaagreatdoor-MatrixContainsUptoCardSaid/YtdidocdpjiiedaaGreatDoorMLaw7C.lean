/-
  Walks: the law MatrixContains.
-/
import Derived.Deep.LoopGhost
import Derived.Deep.CutRange
import Derived.Deep.DeepFit
import Derived.Deep.RegionHeld3
import Derived.Test.YtdidocdpjiiedaaGreatDoorMLaw7N
import Derived.Test.YtdidocdpjiiedaaGreatDoorMOwnX
namespace Go.Proofs.YtdidocdpjiiedaaGreatDoor
open Go.RowKit

set_option maxRecDepth 100000 in
set_option maxHeartbeats 8000000 in
theorem Contains_ok (a b : Option Addr) (m : List (List RI)) (x : List RI) (c d : Nat) (p n0 : Int) (w : World) (hm : RowM w a m) (hx : RowI w b x) (hl : m.length ≤ 1100000) (hl2 : x.length ≤ 1100000) (hT : Tab w) :
    Calls Tryz.prog 8 #[.slice a m.length c, .slice b x.length d, .int .i64 p, .int .u64 n0] w fun e w' => e = .returned (.bool true) ∧ Kp w w' := by
  have HM := Lib.hid hm
  have HX := Lib.hid hx
  have HTb := Lib.hid hT
  have k0 := (Kp.refl w).alloc (.cells #[.int .u64 n0] 53)
  clear hm hx hT
  go_enter Tryz.func8, Tryz.ntmps8
  go_wp2_with fail
  generalize hW : w.alloc _ = W at *
  have hb0 : W.cell? ⟨w.heap.size, 0, none⟩ = some (.int .u64 n0) := by rw [← hW]; simp
  have hf0 : W.frozen? ⟨w.heap.size, 0, none⟩ = false := by rw [← hW]; simp
  clear hW
  go_fit (awake7_any _ (HTb.out.kp k0))
  rintro e w1 ⟨rfl, k1⟩
  have hk1 := k0.trans k1
  have HT := Lib.hid (rowT_one (c := c) (HM.out.kp hk1) hl 22)
  have hA := hk1.alloc (.cells #[.slice a m.length c] 22)
  have hb1 := (k1.alloc (.cells #[.slice a m.length c] 22)).cell hb0
  have hf1 := (k1.alloc (.cells #[.slice a m.length c] 22)).frozen hb0 hf0
  clear k0 k1 hk1 hb0 hf0
  go_wp2_with fail
  go_fit (great7_any [m] _ 1 _ HT.out (by simp))
  rintro e w2 ⟨rfl, k2⟩
  have hk2 := hA.trans k2
  have hb2 := k2.cell hb1
  have hf2 := k2.frozen hb1 hf1
  clear HT hA k2 hb1 hf1
  cases hg : [m].any greatM with
  | true =>
    clear hg
    go_wp2_with fail
    go_ret
    exact ⟨rfl, hk2⟩
  | false =>
  clear hg
  go_wp2_with fail
  go_fit (fine7_any p _)
  rintro e w3 ⟨rfl, rfl⟩
  cases hf : fineP p with
  | false =>
    clear hf
    go_wp2_with fail
    go_ret
    exact ⟨rfl, hk2⟩
  | true =>
  clear hf
  by_cases h20 : 20 < x.length
  · have g : (20 : Int) < (x.length : Int) := by omega
    clear h20
    go_wp2_with fail
    go_ret
    exact ⟨rfl, hk2⟩
  have g : ¬ (20 : Int) < (x.length : Int) := by omega
  clear h20
  go_wp2_with fail
  go_fit (containsI b x d 21 #[] _ wideR hl2 (HX.out.kp hk2) ⟨fun _ _ => by kernel_rfl, fun y _ w1 _ => wide7_any y w1⟩)
  rintro e w4 ⟨rfl, k4⟩
  have hk4 := hk2.trans k4
  have hb4 := k4.cell hb2
  have hf4 := k4.frozen hb2 hf2
  clear hk2 k4 hb2 hf2
  cases hw : x.any wideR with
  | true =>
    clear hw
    go_wp2_with fail
    go_ret
    exact ⟨rfl, hk4⟩
  | false =>
  clear hw
  go_wp2_with fail
  go_fit (mvalid_any a m c _ (HM.out.kp hk4) hl)
  rintro e w5 ⟨rfl, k5⟩
  have hk5 := hk4.trans k5
  have hb5 := k5.cell hb4
  have hf5 := k5.frozen hb4 hf4
  clear hk4 k5 hb4 hf4
  cases hvm : vlM m with
  | false =>
    clear hvm
    go_wp2_with fail
    go_ret
    exact ⟨rfl, hk5⟩
  | true =>
  have HVM := Lib.hid hvm
  have HK5 := Lib.hid hk5
  clear hvm
  go_wp2_with fail
  go_fit (mapply_any a b m x c d p _ (HM.out.kp HK5.out) (HX.out.kp HK5.out) hl hl2 (HTb.out.kp HK5.out))
  rintro e w6 ⟨aY, Y, cY, rfl, rY, pY, oY, lY, k6⟩
  have HK6 := Lib.hid (HK5.out.trans k6)
  have hb6 := k6.cell hb5
  have hf6 := k6.frozen hb5 hf5
  have RY := Lib.hid (And.intro rY (And.intro pY (And.intro oY lY)))
  clear hb5 hf5 k6 rY pY oY hk5
  by_cases hap : (applyC m x p).2 = 0
  case neg =>
    have hYl : Y.length = 0 := by
      rcases applyC_cases m x p with h | h
      · have h1 := RY.out.2.1
        rw [h.2] at h1
        have := congrArg List.length h1
        simpa [plR] using this
      · rw [h.1] at hap; exact absurd rfl hap
    have HYl := Lib.hid hYl
    have g1 : ((applyC m x p).2 != 0) = true := by rw [bne, beq_eq_false_iff_ne.2 hap]; rfl
    have g3 : ((applyC m x p).2 == 0) = false := beq_eq_false_iff_ne.2 hap
    rw [HYl.out]
    clear hap hYl lY
    go_wp2_with fail
    go_ret
    exact ⟨rfl, HK6.out⟩
  rcases applyC_cases m x p with h | h
  · exact absurd hap h.1
  rw [hap]
  clear hap
  have HA := Lib.hid h
  obtain ⟨_, _, hvx, hpp, hcx⟩ := id h
  have HCX := Lib.hid hcx
  have HPY := Lib.hid (show plR Y = rowF m.length fun i => dotF p.toNat (atP m i) (rowG x) (colsM m - 1) by rw [RY.out.2.1, HA.out.1])
  obtain ⟨r0, hr0, hc0⟩ := vlM_row0 HVM.out
  have hml := (vlM_iff.1 HVM.out).1
  have hmc := (vlM_iff.1 HVM.out).2.1
  obtain ⟨ba, oa, ra0, rc0, rfl, hrow0, hr0i, _⟩ := HM.out 0 r0 hr0
  rw [Nat.add_zero] at hrow0
  have HML := Lib.hid (And.intro hml hmc)
  have HR0 := Lib.hid (show r0.length = x.length by omega)
  clear h hvx hpp hcx hr0 hr0i hc0 hml hmc lY
  go_wp2_with fail
  go_fit (r7valid_any (some ⟨ba, oa, none⟩) m c _ (HM.out.kp HK6.out) hl)
  rw [HVM.out]
  rintro e w7 ⟨rfl, k7⟩
  have HK7 := Lib.hid (HK6.out.trans k7)
  have hb7 := k7.cell hb6
  have hf7 := k7.frozen hb6 hf6
  have hi1 : (0 : Int) < (m.length : Int) := by have := HML.out; omega
  have hr7 := HK7.out.cell hrow0
  have RY7 := Lib.hid (RY.out.1.kp k7)
  clear hb6 hf6 k7 hrow0 hl2
  rw [HR0.out] at hr7
  go_upto_region 12 with fail
  clear hr7 hi1
  have hlt0 : w.heap.size < w7.heap.size := World.block_lt_of_cell? w7 _ hb7
  have kM := (Kp.refl w7).alloc (.cells #[.bool false, .slice none 0 0, .int .i64 0] 28)
  have hbM := kM.cell hb7
  have hfM := kM.frozen hb7 hf7
  have HKM := Lib.hid (HK7.out.trans kM)
  have hYM : BoxD (w7.alloc (.cells #[.bool false, .slice none 0 0, .int .i64 0] 28)) w7.heap.size rdZero := Box3.new _ _ _ _ _
  have RYM := Lib.hid (RY7.out.kp kM)
  have hszM : (w7.alloc (.cells #[.bool false, .slice none 0 0, .int .i64 0] 28)).heap.size = w7.heap.size + 1 := by simp
  have HYB := Lib.hid (show ∀ p, aY = some p → p.block ≠ w7.heap.size from fun q hq => by
    have hY1 : Y.length = m.length := by
      have := congrArg List.length HPY.out
      simpa [plR, rowF] using this
    obtain ⟨b9, o9, e9, _, h9, _⟩ := RY7.out 0 _ (List.getElem?_eq_getElem (by have := HML.out.1.1; omega))
    rw [hq] at e9
    cases e9
    exact Nat.ne_of_lt (World.block_lt_of_cell? _ _ h9))
  clear hb7 hf7 kM
  go_upto_region 13 with fail
  generalize hWM : w7.alloc _ = WM at *
  clear hWM
  generalize hbb : w.heap.size = bb at *
  generalize hob : w7.heap.size = ob at *
  obtain ⟨S, hSS⟩ : ∃ n : Nat, n = WM.heap.size := ⟨_, rfl⟩
  have HS := Lib.hid (show w.heap.size ≤ bb ∧ w.heap.size ≤ ob ∧ bb ≠ ob ∧ bb < S ∧ ob < S from ⟨by omega, by omega, by omega, by omega, by omega⟩)
  have HBM := Lib.hid (show Bas w S bb ob aY Y rdZero WM from ⟨⟨HKM.out, hSS.symm⟩, ⟨n0, hbM⟩, hfM, hYM, RYM.out⟩)
  have HSM := Lib.hid (show S ≤ WM.heap.size by omega)
  clear hbb hob hSS hbM hfM hYM hszM hlt0
  go_wp2_with fail
  go_loopg [12, 80] m.length (fun q v t wr => ∃ (wb : World) (R : List (List RD)) (us : List Value), R.length + q = m.length ∧ t = .int .i64 (R.length : Int) ∧ Bas w S bb ob aY Y rdZero wb ∧ OwnX S wb wr v us R ∧ endsQ m R)
  case atStart => exact ⟨WM, [], [], by simp, rfl, HBM.out, OwnX.nil (Kp.refl _) HSM.out, fun i r l _ h => by simp at h⟩
  case round =>
    obtain ⟨wb, R, us, hRq, rfl, hB, hO, hE⟩ := hrel
    have HB := Lib.hid hB
    have HO := Lib.hid hO
    have HE := Lib.hid hE
    have HKR := Lib.hid (hB.1.1.trans hO.1.1)
    clear hB hO hE
    by_cases hlt : R.length < m.length
    · obtain ⟨r, hr⟩ : ∃ r, m[R.length]? = some r := ⟨_, List.getElem?_eq_getElem hlt⟩
      obtain ⟨b2, o2, ra, rc, e2, hrc, hrow, hrl⟩ := HM.out R.length r hr
      cases e2
      have hrc1 := HKR.out.cell hrc
      have HRW := Lib.hid (And.intro hr (And.intro hrow (vlM_row HVM.out hr)))
      have Hlt := Lib.hid (And.intro hlt hRq)
      have hr8 : r.length ≤ 8 := by have := (vlM_row HVM.out hr).1; have := HML.out.2; omega
      have hk1 : (0 : Int) ≤ (R.length : Int) := by omega
      have hk2 : (R.length : Int) < (m.length : Int) := by omega
      clear hr hrc hrow hrl hRq hlt
      go_wp2_with fail
      clear hrc1
      obtain ⟨gk1, hgk1⟩ : ∃ x : Nat, x = gk := ⟨_, rfl⟩
      subst hgk1
      obtain ⟨V, hV⟩ : ∃ x : World, x = wr := ⟨_, rfl⟩
      subst hV
      go_loopg [16, 86] r.length (fun q v t wr => ∃ (wb wi : World) (cur : List RD), cur.length + q = r.length ∧ t = .int .i64 (cur.length : Int) ∧ Bas w S bb ob aY Y rdZero wb ∧ wi.heap.size = V.heap.size ∧ OwnX S wb wi u12 us R ∧ OwnE wi wr v cur ∧ endsP r cur)
      case atStart => exact ⟨wb, V, [], by simp, rfl, HB.out, rfl, HO.out, OwnE.nil (Kp.refl _), fun j x d _ h => by simp at h⟩
      case round =>
        obtain ⟨wb, wi, cur, hcq, rfl, hB, hwi, hO, hown, hE2⟩ := hrel
        have HB2 := Lib.hid hB
        have HO2 := Lib.hid hO
        have HOW := Lib.hid hown
        have HE2 := Lib.hid hE2
        have HKW := Lib.hid (hO.1.1.trans hown.1)
        have hSi := hO.1.2
        have HSi := Lib.hid (show S ≤ wi.heap.size by have := hO.1.1.size; omega)
        have HK := Lib.hid ((hB.1.1.trans hO.1.1).trans hown.1)
        clear hB hO hown hE2 hSi
        by_cases hlt2 : cur.length < r.length
        · obtain ⟨x0, hx0⟩ : ∃ x, r[cur.length]? = some x := ⟨_, List.getElem?_eq_getElem hlt2⟩
          obtain ⟨b3, o3, e3, hxr, s0, s1, s2, s3, s4, s5, s6⟩ := (HRW.out.2.1.kp HK.out) cur.length x0 hx0
          subst e3
          have kA := (Kp.refl wr).alloc (.cells #[.bool x0.lo.neg, .slice x0.lo.a x0.lo.xs.length x0.lo.c, .int .i64 x0.lo.e, .bool x0.hi.neg, .slice x0.hi.a x0.hi.xs.length x0.hi.c, .int .i64 x0.hi.e, .bool x0.all] 43)
          have HX0 := Lib.hid (And.intro hx0 (hxr.kp kA))
          have hj1 : (0 : Int) ≤ (cur.length : Int) := by omega
          have hj2 : (cur.length : Int) < (r.length : Int) := by omega
          have Hcl := Lib.hid (And.intro hcq hlt2)
          have hcl : cur.length + 1 ≤ 9000000 := by omega
          obtain ⟨n1, hn1⟩ := HB2.out.2.1
          have hbi := HO2.out.1.1.cell hn1
          have hbr := HOW.out.1.cell hbi
          have hfr := (HO2.out.1.1.trans HOW.out.1).frozen hn1 HB2.out.2.2.1
          have hbA := kA.cell hbr
          have hfA := kA.frozen hbr hfr
          have HbI := Lib.hid hbi
          have HOWA := Lib.hid (HOW.out.kp kA)
          clear hx0 hxr hcq hlt2 hn1 hbi hbr hfr
          go_upto_region 20 with fail
          clear s0 s1 s2 s3 s4 s5 s6
          generalize hW4 : wr.alloc _ = W4 at *
          obtain ⟨s0, s1, s2, s3, s4, s5, s6⟩ : W4.cell? ⟨wr.heap.size, 0, none⟩ = some (.bool x0.lo.neg) ∧ W4.cell? ⟨wr.heap.size, 1, none⟩ = some (.slice x0.lo.a x0.lo.xs.length x0.lo.c) ∧ W4.cell? ⟨wr.heap.size, 2, none⟩ = some (.int .i64 x0.lo.e) ∧ W4.cell? ⟨wr.heap.size, 3, none⟩ = some (.bool x0.hi.neg) ∧ W4.cell? ⟨wr.heap.size, 4, none⟩ = some (.slice x0.hi.a x0.hi.xs.length x0.hi.c) ∧ W4.cell? ⟨wr.heap.size, 5, none⟩ = some (.int .i64 x0.hi.e) ∧ W4.cell? ⟨wr.heap.size, 6, none⟩ = some (.bool x0.all) := by rw [← hW4]; simp
          clear hW4 kA
          have HbA := Lib.hid hbA
          go_wp2_with fail
          go_fit (pick7_any x0 bb n1 _ HX0.out.2 hbA hfA)
          rintro e w9 ⟨dd, rfl, he, hd, n2, k9⟩
          have kZ := (Kp.refl w9).alloc (.cells #[.bool dd.neg, .slice dd.a dd.xs.length dd.c, .int .i64 dd.e] 28)
          have HOW9 := HOWA.out.next k9 (by have := HS.out; have := HSi.out; omega) HbA.out (fun _ h => by cases h)
          have hown9 := HOW9.kp kZ
          have hdZ := hd.kp kZ
          have HE9 := Lib.hid (HE2.out.snoc HX0.out.1 he)
          have HB9 := Lib.hid (HB2.out.next HS.out.1 HS.out.2.2.1 n2)
          have HO9 := Lib.hid (HO2.out.set HS.out.2.2.2.1 HbI.out (fun _ h => by cases h) (.int .u64 n2))
          clear HOW9 hd he k9 s0 s1 s2 s3 s4 s5 s6 hbA hfA kZ
          go_wp2_with (at_builtin; refine wpList_append_dyn rfl _ _ rfl _ _ cur rfl hown9 _ _ rfl dd hdZ (by simp) hcl ?_; intro a' c' w10 hown10 hbel hgrow)
          go_roundg (gk - 1)
          case measure => have := Hcl.out; omega
          case rel =>
            refine ⟨_, _, cur ++ [dd], by have := Hcl.out; rw [List.length_append, List.length_singleton]; omega, by rw [List.length_append, List.length_singleton]; go_num, HB9.out, ?_, HO9.out, by simpa using hown10, HE9.out⟩
            simpa using hwi
        · have hce : cur.length = r.length := by omega
          obtain ⟨ua, uc, rfl, huc, hum, hurow⟩ := HOW.out.value
          obtain ⟨hrs, hoff⟩ := HOW.out.row (u := u12) HSi.out rfl hurow HO2.out.new
          have kA := (Kp.refl wr).alloc (.cells #[.slice ua cur.length uc] 61)
          have HOA := HO2.out.kp (HOW.out.1.trans kA)
          have hrsA := hrs.kp kA
          have hoffA := hoff.kp kA.size
          have HPC := Lib.hid (And.intro HE2.out hce)
          have hcl2 : cur.length ≤ 1100000 := by omega
          have hRl : R.length + 1 ≤ 9000000 := by have := Hlt.out; omega
          clear hcq huc hum hurow hce hrs hoff kA
          go_wp2_with (at_builtin; refine wpList_append_rowx rfl _ _ rfl S _ _ us R rfl HOA _ _ rfl ua uc cur hrsA hoffA hcl2 (by simp) hRl ?_; intro v' us' w9 hM9)
          go_roundg (gk1 - 1)
          case measure => have := Hlt.out; omega
          case rel => exact ⟨_, R ++ [cur], us', by have := Hlt.out; rw [List.length_append, List.length_singleton]; omega, by rw [List.length_append, List.length_singleton]; go_num, HB2.out, hM9, HE.out.snoc HRW.out.1 HPC.out.1 HPC.out.2⟩
    · have hRe : R.length = m.length := by omega
      obtain ⟨aM, cM, rfl, hvc1, hvc2, hrm⟩ := HO.out.value
      have HRe := Lib.hid (And.intro hRe hrm)
      obtain ⟨n1, hn1⟩ := HB.out.2.1
      have hb3 := HO.out.1.1.cell hn1
      have hf3 := HO.out.1.1.frozen hn1 HB.out.2.2.1
      have hY3 := HB.out.2.2.2.1.kp HO.out.1.1
      have HK3 := Lib.hid (HB.out.1.1.trans HO.out.1.1)
      have HS3 := Lib.hid (show S ≤ wr.heap.size by have := HO.out.1.1.size; have := HO.out.1.2; omega)
      have RY3 := HB.out.2.2.2.2.kp HO.out.1.1
      clear hRe hRq hrm hn1 hvc1 hvc2
      go_upto_region 24 with fail
      obtain ⟨V, hV⟩ : ∃ x : World, x = wr := ⟨_, rfl⟩
      subst hV
      obtain ⟨S3, hS3⟩ : ∃ n : Nat, n = V.heap.size := ⟨_, rfl⟩
      have HB3 := Lib.hid (show Bas w S3 bb ob aY Y rdZero V from ⟨⟨HK3.out, hS3.symm⟩, ⟨n1, hb3⟩, hf3, hY3, RY3⟩)
      have HS4 := Lib.hid (show bb < S3 ∧ ob < S3 by have := HS.out; have := HS3.out; omega)
      have HZX := Lib.hid (HA.out.2.2.1)
      clear hb3 hf3 hY3 RY3 hS3
      go_wp2_with fail
      go_loopg [19, 104] x.length (fun q v t wr => ∃ (wb : World) (z : List RD) (y : RD), z.length + q = x.length ∧ t = .int .i64 (z.length : Int) ∧ Bas w S3 bb ob aY Y y wb ∧ OwnE wb wr v z ∧ y.ok wr ∧ endsP x z ∧ bndD z y.iv ∧ RowNs S wb aM R)
      case atStart => exact ⟨V, [], rdZero, by simp, rfl, HB3.out, OwnE.nil (Kp.refl _), ⟨rdZero_rd _, rdZero_vl⟩, fun j x d _ h => by simp at h, ⟨by rw [show rdZero.iv = 0 from Dy.iv_zero]; exact Int.le_refl _, fun y h => by simp at h⟩, HRe.out.2⟩
      case round =>
        obtain ⟨wb, z, y, hzq, rfl, hB, hown, hy, hE2, hbn, hRN⟩ := hrel
        have HB4 := Lib.hid hB
        have HOW := Lib.hid hown
        have HE4 := Lib.hid (And.intro hE2 (And.intro hbn hRN))
        have HYo := Lib.hid hy
        have HK := Lib.hid (hB.1.1.trans hown.1)
        clear hB hown hE2 hbn hRN hy
        by_cases hlt2 : z.length < x.length
        · obtain ⟨x0, hx0⟩ : ∃ u, x[z.length]? = some u := ⟨_, List.getElem?_eq_getElem hlt2⟩
          obtain ⟨b3, o3, e3, hxr, s0, s1, s2, s3, s4, s5, s6⟩ := (HX.out.kp HK.out) z.length x0 hx0
          subst e3
          have kA := (Kp.refl wr).alloc (.cells #[.bool x0.lo.neg, .slice x0.lo.a x0.lo.xs.length x0.lo.c, .int .i64 x0.lo.e, .bool x0.hi.neg, .slice x0.hi.a x0.hi.xs.length x0.hi.c, .int .i64 x0.hi.e, .bool x0.all] 43)
          have HX0 := Lib.hid (And.intro hx0 (And.intro (hxr.kp kA) (HZX.out x0 (List.mem_of_getElem? hx0))))
          have hj1 : (0 : Int) ≤ (z.length : Int) := by omega
          have hj2 : (z.length : Int) < (x.length : Int) := by omega
          have Hcl := Lib.hid (And.intro hzq hlt2)
          have hcl : z.length + 1 ≤ 9000000 := by omega
          obtain ⟨n2, hn2⟩ := HB4.out.2.1
          have hbr := HOW.out.1.cell hn2
          have hfr := HOW.out.1.frozen hn2 HB4.out.2.2.1
          have hbA := kA.cell hbr
          have hfA := kA.frozen hbr hfr
          have HbI := Lib.hid hn2
          have HOWA := Lib.hid (HOW.out.kp kA)
          have HYA := Lib.hid (HYo.out.kp kA)
          clear hx0 hxr hzq hlt2 hn2 hbr hfr
          go_upto_region 28 with fail
          clear s0 s1 s2 s3 s4 s5 s6
          generalize hW4 : wr.alloc _ = W4 at *
          obtain ⟨s0, s1, s2, s3, s4, s5, s6⟩ : W4.cell? ⟨wr.heap.size, 0, none⟩ = some (.bool x0.lo.neg) ∧ W4.cell? ⟨wr.heap.size, 1, none⟩ = some (.slice x0.lo.a x0.lo.xs.length x0.lo.c) ∧ W4.cell? ⟨wr.heap.size, 2, none⟩ = some (.int .i64 x0.lo.e) ∧ W4.cell? ⟨wr.heap.size, 3, none⟩ = some (.bool x0.hi.neg) ∧ W4.cell? ⟨wr.heap.size, 4, none⟩ = some (.slice x0.hi.a x0.hi.xs.length x0.hi.c) ∧ W4.cell? ⟨wr.heap.size, 5, none⟩ = some (.int .i64 x0.hi.e) ∧ W4.cell? ⟨wr.heap.size, 6, none⟩ = some (.bool x0.all) := by rw [← hW4]; simp
          clear hW4 kA
          have HbA := Lib.hid hbA
          go_wp2_with fail
          go_fit (pick7_any x0 bb n2 _ HX0.out.2.1 hbA hfA)
          rintro e w9 ⟨dd, rfl, he, hd, n3, k9⟩
          have kZ := (Kp.refl w9).alloc (.cells #[.bool dd.neg, .slice dd.a dd.xs.length dd.c, .int .i64 dd.e] 28)
          have HOW9 := HOWA.out.next k9 (by have := HS4.out; have := HB4.out.1.2; omega) HbA.out (fun _ h => by cases h)
          have HOWZ := Lib.hid (HOW9.kp kZ)
          have kV := Lib.hid HOW9.new
          have hY9 : y.ok w9 := ⟨(RD.rd.set HYA.out.1 HbA.out (fun _ h => by cases h) _).kp k9, HYA.out.2⟩
          have HDZ := Lib.hid (And.intro (show dd.ok (w9.alloc (.cells #[.bool dd.neg, .slice dd.a dd.xs.length dd.c, .int .i64 dd.e] 28)) from ⟨hd.kp kZ, (he.ok HX0.out.2.1 HX0.out.2.2).2⟩) (hY9.kp kZ))
          have HE9 := Lib.hid (HE4.out.1.snoc HX0.out.1 he)
          have HB9 := Lib.hid (HB4.out.next HS.out.1 HS.out.2.2.1 n3)
          have HR9 := Lib.hid (HE4.out.2.2.set HS.out.2.2.2.1 HbI.out (fun _ h => by cases h) (.int .u64 n3))
          clear HOW9 hd he k9 s0 s1 s2 s3 s4 s5 s6 hbA hfA hY9
          go_upto_region 29 with fail
          generalize hW5 : w9.alloc _ = W5 at *
          obtain ⟨s0, s1, s2⟩ : W5.cell? ⟨w9.heap.size, 0, none⟩ = some (.bool dd.neg) ∧ W5.cell? ⟨w9.heap.size, 1, none⟩ = some (.slice dd.a dd.xs.length dd.c) ∧ W5.cell? ⟨w9.heap.size, 2, none⟩ = some (.int .i64 dd.e) := by rw [← hW5]; simp
          have hne9 : w9.heap.size < W5.heap.size := by rw [← hW5]; simp
          have HSD := Lib.hid (show W5.cell? ⟨w9.heap.size, 0, none⟩ = some (.bool dd.neg) ∧ W5.cell? ⟨w9.heap.size, 1, none⟩ = some (.slice dd.a dd.xs.length dd.c) ∧ W5.cell? ⟨w9.heap.size, 2, none⟩ = some (.int .i64 dd.e) from ⟨s0, s1, s2⟩)
          clear hW5 kZ
          have kP := (Kp.refl W5).alloc (.cells #[.bool dd.neg, .slice dd.a dd.xs.length dd.c, .int .i64 dd.e] 28)
          have hownP := HOWZ.out.kp kP
          have hdP := HDZ.out.1.1.kp kP
          have HP := Lib.hid (And.intro (keep3 kP HSD.out) (And.intro (HDZ.out.2.kp kP) hownP.2.2.1))
          clear kP
          go_upto_region 30 with (at_builtin; refine wpList_append_dyn rfl _ _ rfl _ _ z rfl hownP _ _ rfl dd hdP (by simp) hcl ?_; intro a' c' w10 hown10 hbel hgrow)
          have hownQ : OwnE (wb.setCell ⟨bb, 0, none⟩ (.int .u64 n3)) w10 (.slice a' (z.length + 1) c') (z ++ [dd]) := hown10
          have HOWN := Lib.hid hownQ
          have hne10 : some w9.heap.size ≠ u19.ownBlock := fun e => by have := kV.out _ e.symm; omega
          have hSDD : w10.cell? ⟨w9.heap.size, 0, none⟩ = some (.bool dd.neg) ∧ w10.cell? ⟨w9.heap.size, 1, none⟩ = some (.slice dd.a dd.xs.length dd.c) ∧ w10.cell? ⟨w9.heap.size, 2, none⟩ = some (.int .i64 dd.e) := ⟨hgrow.cell HP.out.1.1 hne10, hgrow.cell HP.out.1.2.1 hne10, hgrow.cell HP.out.1.2.2 hne10⟩
          have hBD := HB9.out.2.2.2.1.kp hownQ.1
          have HOY := Lib.hid (And.intro (show y.ok w10 from ⟨RD.rd.far HP.out.2.1.1 hgrow HP.out.2.2, HP.out.2.1.2⟩) (show dd.ok w10 from ⟨hownQ.2.2.2 dd (by simp), HDZ.out.1.2⟩))
          obtain ⟨q0, q1, q2, f0, f1, f2⟩ := id hBD
          have HBD := Lib.hid hBD
          have kd := Lib.hid (Kp.refl w10).drew
          have hSd := keep33 kd.out ⟨hSDD, q0, q1, q2⟩
          have HSDD := Lib.hid hSDD
          clear hown10 hownQ hbel hgrow hne10 hBD hSDD q0 q1 q2 f0 f1 f2 hownP hdP s0 s1 s2
          go_region_held3 (fun w' => (w'.cell? ⟨w9.heap.size, 0, none⟩ = some (.bool dd.neg) ∧ w'.cell? ⟨w9.heap.size, 1, none⟩ = some (.slice dd.a dd.xs.length dd.c) ∧ w'.cell? ⟨w9.heap.size, 2, none⟩ = some (.int .i64 dd.e)) ∧ w'.cell? ⟨ob, 0, none⟩ = some (.bool y.neg) ∧ w'.cell? ⟨ob, 1, none⟩ = some (.slice y.a y.xs.length y.c) ∧ w'.cell? ⟨ob, 2, none⟩ = some (.int .i64 y.e)) (first | with_reducible assumption | with_reducible exact keep33 (by assumption) (by assumption) | fail)
            (first
              | (go_at_call 35; (with_reducible refine (Abs_ok dd _ (HOY.out.2.kp kd.out)).mono ?_); rintro e v1 ⟨z1, rfl, rz, dz, vz, j1⟩
                 have HJ := Lib.hid (kd.out.trans j1)
                 have OZ := Lib.hid (And.intro (show z1.ok v1 from ⟨rz, vz (Dy.absv_ok (rdok_dy HOY.out.2))⟩) dz)
                 clear rz dz vz)
              | (go_at_call 32; (with_reducible refine (Cmp_rok z1 y _ OZ.out.1 (HOY.out.1.kp HJ.out)).mono ?_); rintro e v2 ⟨rfl, j2⟩
                 have HJ2 := Lib.hid (HJ.out.trans j2))
              | fail)
          have HZ1 := Lib.hid (show z1.iv = (dd.iv.natAbs : Int) by show z1.dy.iv = _; rw [OZ.out.2, Dy.absv_iv]; rfl)
          obtain ⟨m0, m1, m2⟩ := keep3 HJ2.out HSDD.out
          have HB2 := Lib.hid (HBD.out.kp HJ2.out)
          have HW2 := Lib.hid (HOWN.out.kp HJ2.out)
          have HY2 := Lib.hid (And.intro (HOY.out.1.kp HJ2.out) (HOY.out.2.kp HJ2.out))
          clear hSd j1 j2
          rw [HZ1.out]
          by_cases hov : y.iv < (dd.iv.natAbs : Int)
          · have hov1 : 0 < cmpZ (dd.iv.natAbs : Int) y.iv := cmp_over.2 hov
            have HV := Lib.hid hov
            clear hov
            go_wp2_with fail
            go_fit (Abs_ok dd _ HY2.out.2)
            rintro e v3 ⟨z2, rfl, rz, dz, vz, j3⟩
            have HO2 := Lib.hid (And.intro (show z2.ok v3 from ⟨rz, vz (Dy.absv_ok (rdok_dy HY2.out.2))⟩) (show z2.iv = (dd.iv.natAbs : Int) by show z2.dy.iv = _; rw [dz, Dy.absv_iv]; rfl))
            have HB3 := Lib.hid (HB2.out.kp j3)
            have HW3 := Lib.hid (HW2.out.kp j3)
            clear rz dz vz j3 m0 m1 m2 hov1
            obtain ⟨q0, q1, q2, f0, f1, f2⟩ := id HB3.out
            go_wp2_with fail
            go_roundg (gk - 1)
            case measure => have := Hcl.out; omega
            case rel =>
              have hown := HW3.out.most (z := z2) (by have := HS4.out; have := HB9.out.1.2; omega) HB3.out
              have hU := (BoxD.store HB3.out z2 rfl).2
              exact ⟨_, z ++ [dd], z2, by have := Hcl.out; rw [List.length_append, List.length_singleton]; omega, by rw [List.length_append, List.length_singleton]; go_num, HB9.out.most HS.out.2.1 HS.out.2.2.1 HYB.out z2, by simpa [put3] using hown, hU.okD HO2.out.1, HE9.out, by rw [HO2.out.2]; exact HE4.out.2.1.more HV.out, HR9.out.most HS.out.2.2.2.2 HB9.out.2.2.2.1⟩
          · have hov1 : ¬ 0 < cmpZ (dd.iv.natAbs : Int) y.iv := fun h => hov (cmp_over.1 h)
            have HV := Lib.hid hov
            clear hov m0 m1 m2
            go_wp2_with fail
            go_roundg (gk - 1)
            case measure => have := Hcl.out; omega
            case rel =>
              exact ⟨_, z ++ [dd], y, by have := Hcl.out; rw [List.length_append, List.length_singleton]; omega, by rw [List.length_append, List.length_singleton]; go_num, HB9.out, by simpa using HW2.out, HY2.out.1, HE9.out, HE4.out.2.1.same (Int.not_lt.2 HV.out), HR9.out⟩
        · have hze : z.length = x.length := by omega
          obtain ⟨aZ, cZ, rfl, hvc1, hvc2, hrz⟩ := HOW.out.value
          have HEZ := Lib.hid (show endsR x z from ⟨hze, HE4.out.1⟩)
          have HRM := Lib.hid (HE4.out.2.2.kp HOW.out.1).row
          have HRZ := Lib.hid (And.intro hrz (ends_vl HEZ.out (fun u hu => ⟨(HX.out.kp HK.out).rdI hu, HZX.out u hu⟩)))
          have HVL := Lib.hid (rows_vl (n := z.length) HVM.out (HM.out.kp HK.out).rds HRe.out.1 HE.out (by have := HCX.out; omega))
          have hlR : R.length ≤ 1100000 := by have := HRe.out.1; omega
          have hlZ : z.length ≤ 1100000 := by have := HCX.out; have := HML.out; omega
          have HYW := Lib.hid (HB4.out.2.2.2.2.kp HOW.out.1)
          have HBY := Lib.hid (HB4.out.2.2.2.1.kp HOW.out.1)
          clear hze hvc1 hvc2 hrz hzq
          go_wp2_with fail
          go_fit (exact7_any aM aZ R z cM cZ _ HRM.out HRZ.out.1 HVL.out HRZ.out.2 hlR hlZ (HTb.out.kp HK.out))
          rintro e v1 ⟨j1, hex⟩
          have HJ1 := Lib.hid (HK.out.trans j1)
          have HYo1 := Lib.hid (HYo.out.kp j1)
          have HYW1 := Lib.hid (HYW.out.kp j1)
          have HBY1 := Lib.hid (HBY.out.kp j1)
          clear j1 hlR hlZ
          rcases hex with rfl | ⟨aW, W, cW, rfl, rW, lW, vW, dW⟩
          · go_wp2_with fail
            go_ret
            exact ⟨rfl, HJ1.out⟩
          have HW := Lib.hid (And.intro rW (And.intro lW (And.intro vW dW)))
          have hlW : W.length ≤ 1100000 := by have := HRe.out.1; omega
          have HIN := Lib.hid (all_inside HVM.out HA.out.2.2.2.1 HCX.out HM.out.rds (fun u hu => ⟨HX.out.rdI hu, HZX.out u hu⟩) HPY.out HRe.out.1 HE.out HEZ.out lW dW)
          have HC := Lib.hid (inside7_any W Y aW aY cW cY _ rW HYW1.out hlW vW RY.out.2.2.1)
          rw [HIN.out] at HC
          clear rW lW vW dW
          go_wp2_with fail
          go_fit HC.out
          rintro e v2 ⟨rfl, j2⟩
          have HJ2 := Lib.hid (HJ1.out.trans j2)
          have HYo2 := Lib.hid (HYo1.out.kp j2)
          have HW2 := Lib.hid (HW.out.1.kp j2)
          have HBY2 := Lib.hid (HBY1.out.kp j2)
          clear j2 hlW
          go_wp2_with fail
          go_fit (mnorm_any (some ⟨ba, oa, none⟩) m c p _ (HM.out.kp HJ2.out) hl (HTb.out.kp HJ2.out))
          rintro e v3 ⟨nn, rfl, rn, dn, vn, j3⟩
          have ka := (Kp.refl v3).alloc (.cells #[.bool nn.neg, .slice nn.a nn.xs.length nn.c, .int .i64 nn.e] 28)
          have j3a := j3.trans ka
          have HJ3 := Lib.hid (HJ2.out.trans j3a)
          have HON := Lib.hid (And.intro (show nn.ok (v3.alloc (.cells #[.bool nn.neg, .slice nn.a nn.xs.length nn.c, .int .i64 nn.e] 28)) from ⟨rn.kp ka, vn⟩) dn)
          have HYo3 := Lib.hid (HYo2.out.kp j3a)
          have HW3 := Lib.hid (HW2.out.kp j3a)
          obtain ⟨q0, q1, q2, _⟩ := HBY2.out.kp j3a
          clear rn dn vn j3 j3a
          go_upto_region 39 with fail
          generalize hW5 : v3.alloc _ = W5 at *
          obtain ⟨s0, s1, s2⟩ : W5.cell? ⟨v3.heap.size, 0, none⟩ = some (.bool nn.neg) ∧ W5.cell? ⟨v3.heap.size, 1, none⟩ = some (.slice nn.a nn.xs.length nn.c) ∧ W5.cell? ⟨v3.heap.size, 2, none⟩ = some (.int .i64 nn.e) := by rw [← hW5]; simp
          clear hW5 ka
          go_wp2_with fail
          go_fit (Mul_rd nn y _ HON.out.1 HYo3.out (HTb.out.kp HJ3.out))
          rintro e v4 ⟨bd, rfl, rb, db, vb, j4⟩
          have hOK : (chk (prodD nn.dy y.dy)).1.ok := chk_canon_ok _ _ _
          have ka := (Kp.refl v4).alloc (.cells #[.bool bd.neg, .slice bd.a bd.xs.length bd.c, .int .i64 bd.e] 28)
          have j4a := j4.trans ka
          have HJ4 := Lib.hid (HJ3.out.trans j4a)
          have HOB := Lib.hid (And.intro (show bd.ok (v4.alloc (.cells #[.bool bd.neg, .slice bd.a bd.xs.length bd.c, .int .i64 bd.e] 28)) from ⟨rb.kp ka, vb hOK⟩) db)
          have HW4 := Lib.hid (HW3.out.kp j4a)
          clear rb db vb j4 j4a hOK s0 s1 s2 q0 q1 q2
          go_upto_region 40 with fail
          generalize hW6 : v4.alloc _ = W6 at *
          have HSB := Lib.hid (show W6.cell? ⟨v4.heap.size, 0, none⟩ = some (.bool bd.neg) ∧ W6.cell? ⟨v4.heap.size, 1, none⟩ = some (.slice bd.a bd.xs.length bd.c) ∧ W6.cell? ⟨v4.heap.size, 2, none⟩ = some (.int .i64 bd.e) by rw [← hW6]; simp)
          have hbW := World.block_lt_of_cell? _ _ HSB.out.1
          clear hW6 ka
          cases hN : nrmO m p with
          | none =>
            clear hN
            go_wp2_with fail
            go_ret
            exact ⟨rfl, HJ4.out⟩
          | some t =>
            have HN := Lib.hid hN
            have HDN := Lib.hid (show nn.dy = t by rw [HON.out.2, hN]; rfl)
            clear hN
            by_cases he2 : (chk (prodD nn.dy y.dy)).2 = 0
            · have HNO := Lib.hid (none_over HN.out (fun r hr => by rw [← HCX.out]; exact ((vlM_iff.1 HVM.out).2.2 r hr).1) HRe.out.1 HE.out HEZ.out HW.out.2.1 HW.out.2.2.2 HE4.out.2.1 HDN.out HON.out.1 HYo3.out he2 HOB.out.2)
              have hlW : W.length ≤ 1100000 := by have := HRe.out.1; have := HW.out.2.1; omega
              have HC2 := Lib.hid (containsD aW W cW 40 #[.pointer (some ⟨v4.heap.size, 0, none⟩)] W6 (overB bd) hlW HW4.out
                ⟨fun _ _ => by kernel_rfl, fun d hd w1 k => over7_any d bd v4.heap.size w1 ⟨(HW4.out.rd hd).kp k, HW.out.2.2.1 d hd⟩ (HOB.out.1.kp k) (keep3 k HSB.out)⟩)
              rw [HNO.out] at HC2
              rw [he2]
              clear he2 hlW
              go_wp2_with fail
              go_fit HC2.out
              rintro e v5 ⟨rfl, j5⟩
              go_wp2_with fail
              go_ret
              exact ⟨rfl, HJ4.out.trans j5⟩
            · have g1 : ((chk (prodD nn.dy y.dy)).2 != 0) = true := by rw [bne, beq_eq_false_iff_ne.2 he2]; rfl
              have g3 : ((chk (prodD nn.dy y.dy)).2 == 0) = false := beq_eq_false_iff_ne.2 he2
              clear he2
              go_wp2_with fail
              go_ret
              exact ⟨rfl, HJ4.out⟩
end Go.Proofs.YtdidocdpjiiedaaGreatDoor
