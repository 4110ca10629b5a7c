/-
  Walks: the seventh reference's Norm.
-/
import Derived.Deep.LoopGhost
import Derived.Deep.RegionWith
import Derived.Deep.CutRange
import Derived.Test.YtpocjagbhiahdaaGreatDoorMIvM
import Derived.Test.YtpocjagbhiahdaaGreatDoorMR2I
import Derived.Test.YtpocjagbhiahdaaGreatDoorMR3C
namespace Go.Proofs.YtpocjagbhiahdaaGreatDoor
open Go.RowKit

theorem magP_ok {X : PI} (h : X.ok) : (magP X).ok := by
  unfold magP
  split
  · exact Dy.ok_zero
  unfold maxD
  split
  · exact Dy.absv_ok (PI.ok_lo h)
  exact Dy.absv_ok (PI.ok_hi h)
theorem r3add_ok (a b : RD) {p : Nat} (h0 : 8 ≤ p) (h1 : p ≤ 512) (up : Bool) (W : World) (ha : a.ok W) (hb : b.ok W) :
    Calls Tryz.prog 45 #[.agg #[.bool a.neg, .slice a.a a.xs.length a.c, .int .i64 a.e], .agg #[.bool b.neg, .slice b.a b.xs.length b.c, .int .i64 b.e], .int .i64 p, .bool up] W (NumE W (adP a.dy b.dy p up).1 (adP a.dy b.dy p up).2) := by
  have := r3add_any a b (p : Int) up W ha.1 hb.1
  rwa [addB_dy ha hb h0 h1 up] at this
set_option maxRecDepth 100000 in
set_option maxHeartbeats 8000000 in
theorem r7norm_any (a : Option Addr) (m : List (List RI)) (c : Nat) (p : Int) (w : World) (hm : RowM w a m) (hl : m.length ≤ 1100000) :
    Calls Tryz.prog 42 #[.slice a m.length c, .int .i64 p] w (NumB w ((nrmO m p).getD .zero) (nrmO m p).isSome) := by
  have HM := Lib.hid hm
  obtain ⟨D, hD⟩ : ∃ D, D = nrmO m p := ⟨_, rfl⟩
  have HD := Lib.hid hD
  rw [← hD]
  clear hm hD
  go_enter Tryz.func42, Tryz.ntmps42
  go_upto_region 1 with fail
  generalize hW : w.alloc _ = W at *
  have hk : Kp w W := hW ▸ (Kp.refl w).alloc _
  have hB : BoxD W w.heap.size rdZero := by rw [← hW]; exact Box3.new _ _ _ _ _
  clear hW
  go_upto_region 2 with fail
  generalize hW2 : W.alloc _ = W2 at *
  have hk2 : Kp W W2 := hW2 ▸ (Kp.refl W).alloc _
  have hY : BoxD W2 W.heap.size rdZero := by rw [← hW2]; exact Box3.new _ _ _ _ _
  clear hW2
  have HK1 := Lib.hid hk
  have HB1 := Lib.hid hB
  go_wp2_with fail
  go_fit (r7valid_any a m c _ (HM.out.kp (hk.trans hk2)) hl)
  rintro e w1 ⟨rfl, k1⟩
  have hkr := hk2.trans k1
  have hk1 := hk.trans hkr
  have hB1 := hB.kp hkr
  have hY1 := hY.kp k1
  clear hk hB hk2 hY k1
  cases hvm : vlM m with
  | false =>
    have HE := Lib.hid (show D = none by rw [HD.out]; unfold nrmO; rw [hvm]; rfl)
    clear hvm
    obtain ⟨q0, q1, q2, f0, f1, f2⟩ := id hB1
    obtain ⟨r0, r1, r2, g0, g1, g2⟩ := id hY1
    go_wp2_with fail
    generalize hW9 : (((w1.setCell _ _).setCell _ _).setCell _ _) = W9
    obtain ⟨⟨s0, s1, s2, _⟩, hU⟩ := BoxD.store hB1 rdZero hW9
    clear hW9 q0 q1 q2 f0 f1 f2 r0 r1 r2 g0 g1 g2
    refine bodyPost_ret (v := .tuple #[.agg #[.bool rdZero.neg, .slice rdZero.a rdZero.xs.length rdZero.c, .int .i64 rdZero.e], .bool false]) (by simp [results, Tryz.results42, go_sem, s0, s1, s2]) rfl ?_
    rw [HE.out]
    exact ⟨rdZero, rfl, rdZero_rd _, rfl, rdZero_vl, hU.2.2.1 _ hk1 (by omega)⟩
  | true =>
  have HVM := Lib.hid hvm
  clear hvm
  go_wp2_with fail
  go_fit (r3prec_any p _)
  rintro e w3 ⟨rfl, rfl⟩
  cases hp : preB p with
  | false =>
    have HE := Lib.hid (show D = none by rw [HD.out]; unfold nrmO; rw [HVM.out, hp]; rfl)
    clear hp
    obtain ⟨q0, q1, q2, f0, f1, f2⟩ := id hB1
    obtain ⟨r0, r1, r2, g0, g1, g2⟩ := id hY1
    go_wp2_with fail
    generalize hW9 : (((w1.setCell _ _).setCell _ _).setCell _ _) = W9
    obtain ⟨⟨s0, s1, s2, _⟩, hU⟩ := BoxD.store hB1 rdZero hW9
    clear hW9 q0 q1 q2 f0 f1 f2 r0 r1 r2 g0 g1 g2
    refine bodyPost_ret (v := .tuple #[.agg #[.bool rdZero.neg, .slice rdZero.a rdZero.xs.length rdZero.c, .int .i64 rdZero.e], .bool false]) (by simp [results, Tryz.results42, go_sem, s0, s1, s2]) rfl ?_
    rw [HE.out]
    exact ⟨rdZero, rfl, rdZero_rd _, rfl, rdZero_vl, hU.2.2.1 _ hk1 (by omega)⟩
  | true =>
  have HP := Lib.hid hp
  obtain ⟨q, hq⟩ : ∃ q : Nat, q = p.toNat := ⟨_, rfl⟩
  have hpq : p = (q : Int) := by have := preB_iff.1 hp; omega
  have hq0 : 8 ≤ q := by have := preB_iff.1 hp; omega
  have hq1 : q ≤ 512 := by have := preB_iff.1 hp; omega
  have HDm := Lib.hid (show nrmN q m .zero = D by rw [HD.out]; unfold nrmO; rw [HVM.out, hp, hq]; rfl)
  clear hp
  rw [hpq]
  clear hpq hq hk1 hB1
  have hm8 : m.length ≤ 8 := (vlM_iff.1 HVM.out).1.2
  go_wp2_with fail
  go_loopg [7] m.length (fun n v wr => ∃ (i : Nat) (y : RD), i + n = m.length ∧ v = .int .i64 (i : Int) ∧ Kp W wr ∧ BoxD wr W.heap.size y ∧ y.ok wr ∧ nrmN q (m.drop i) y.dy = D)
  case atStart => exact ⟨0, rdZero, by omega, rfl, hkr, hY1, ⟨rdZero_rd _, rdZero_vl⟩, by rw [List.drop_zero]; exact HDm.out⟩
  case round =>
  clear hkr hY1
  obtain ⟨i, y, hin, rfl, hkr, hYr, hyo, hN⟩ := hrel
  have HN := Lib.hid hN
  have HYo := Lib.hid hyo
  clear hN hyo
  by_cases hlt : i < m.length
  rotate_left
  · have HC3 := Lib.hid (show D = some y.dy by
      have hd : m.drop i = [] := List.drop_eq_nil_of_le (by omega)
      have := HN.out
      rw [hd] at this
      exact this.symm)
    have hB9 := HB1.out.kp hkr
    have hkz := HK1.out.trans hkr
    obtain ⟨q0, q1, q2, f0, f1, f2⟩ := id hYr
    obtain ⟨r0, r1, r2, g0, g1, g2⟩ := id hB9
    go_wp2_with fail
    generalize hW9 : (((wr.setCell _ _).setCell _ _).setCell _ _) = W9
    obtain ⟨⟨s0, s1, s2, _⟩, hU⟩ := BoxD.store hB9 y hW9
    clear hW9 q0 q1 q2 f0 f1 f2 r0 r1 r2 g0 g1 g2
    refine bodyPost_ret (v := .tuple #[.agg #[.bool y.neg, .slice y.a y.xs.length y.c, .int .i64 y.e], .bool true]) (by simp [results, Tryz.results42, go_sem, s0, s1, s2]) rfl ?_
    rw [HC3.out]
    exact ⟨y, rfl, hU.rdD HYo.out.1, rfl, HYo.out.2, hU.2.2.1 _ hkz (by omega)⟩
  obtain ⟨r, hr⟩ : ∃ r, m[i]? = some r := ⟨_, List.getElem?_eq_getElem hlt⟩
  obtain ⟨b2, o2, ra, rc, rfl, hrc, hrow, hrl⟩ := HM.out i r hr
  have HRC := Lib.hid hrc
  have HRW := Lib.hid (And.intro hrow (vlM_row HVM.out hr))
  have HR := Lib.hid (show contN q (m.drop (i + 1)) y.dy (sumN q (r.drop 0) .zero) = D from (nrmN_row hr).symm.trans HN.out)
  have hi1 : (0 : Int) ≤ (i : Int) := by omega
  have hi2 : (i : Int) < (m.length : Int) := by omega
  have hr8 : r.length ≤ 8 := by rw [(vlM_row HVM.out hr).1]; exact (vlM_iff.1 HVM.out).2.1.2
  have Hin := Lib.hid (And.intro hin hlt)
  clear hr hrc hrow hrl hin
  go_upto_region 8 with fail
  obtain ⟨V, hV⟩ : ∃ x : World, x = wr := ⟨_, rfl⟩
  subst hV
  generalize hW3 : V.alloc _ = W3 at *
  have hk3 : Kp V W3 := hW3 ▸ (Kp.refl V).alloc _
  have hS3 : BoxD W3 V.heap.size rdZero := by rw [← hW3]; exact Box3.new _ _ _ _ _
  clear hW3
  obtain ⟨gk1, hgk1⟩ : ∃ x : Nat, x = gk := ⟨_, rfl⟩
  subst hgk1
  have HKR := Lib.hid hkr
  have HYr := Lib.hid hYr
  clear hkr hYr
  go_wp2_with fail
  go_loopg [9] r.length (fun n v wr => ∃ (k : Nat) (s : RD), k + n = r.length ∧ v = .int .i64 (k : Int) ∧ Kp V wr ∧ BoxD wr V.heap.size s ∧ s.ok wr ∧ contN q (m.drop (i + 1)) y.dy (sumN q (r.drop k) s.dy) = D)
  case atStart => exact ⟨0, rdZero, by omega, rfl, hk3, hS3, ⟨rdZero_rd _, rdZero_vl⟩, HR.out⟩
  case round =>
  obtain ⟨k, s, hkn, rfl, hks, hS, hso, hC⟩ := hrel
  have HC := Lib.hid hC
  have HSo := Lib.hid hso
  clear hC hso hS3 hk3
  have hrc1 := ((HK1.out.trans HKR.out).trans hks).cell HRC.out
  by_cases hlt2 : k < r.length
  rotate_left
  · have HC2 := Lib.hid (show nrmN q (m.drop (i + 1)) (if y.dy.iv < s.dy.iv then s.dy else y.dy) = D by
      have hd : r.drop k = [] := List.drop_eq_nil_of_le (by omega)
      have := HC.out
      rw [hd] at this
      exact this)
    have hY2 := HYr.out.kp hks
    have hyo := HYo.out.kp hks
    have hKK := HKR.out.trans hks
    obtain ⟨q0, q1, q2, f0, f1, f2⟩ := id hS
    obtain ⟨r0, r1, r2, g0, g1, g2⟩ := id hY2
    go_wp2_with fail
    go_fit (r2cmp_rok s y _ HSo.out hyo)
    rintro e w7 ⟨rfl, k7⟩
    have hS7 := hS.kp k7
    have hY7 := hY2.kp k7
    have Hyo := Lib.hid (hyo.kp k7)
    have HSo7 := Lib.hid (HSo.out.kp k7)
    have hK7 := hKK.trans k7
    clear q0 q1 q2 f0 f1 f2 r0 r1 r2 g0 g1 g2 hS hY2 hyo hks hKK k7
    obtain ⟨q0, q1, q2, f0, f1, f2⟩ := id hS7
    obtain ⟨r0, r1, r2, g0, g1, g2⟩ := id hY7
    by_cases hc : 0 < cmpZ s.iv y.iv
    rotate_left
    · have hd := decide_eq_false hc
      have HC3 := Lib.hid (show nrmN q (m.drop (i + 1)) y.dy = D by
        have h1 : ¬ y.dy.iv < s.dy.iv := fun h => hc (cmpZ_gt.2 h)
        have := HC2.out
        rwa [if_neg h1] at this)
      clear hc
      go_wp2_with fail
      go_roundg (gk1 - 1)
      case rel => exact ⟨i + 1, y, by have := Hin.out; omega, by go_num, hK7, hY7, Hyo.out, HC3.out⟩
      case measure => have := Hin.out; omega
    have hd := decide_eq_true hc
    have HC3 := Lib.hid (show nrmN q (m.drop (i + 1)) s.dy = D by
      have h1 : y.dy.iv < s.dy.iv := cmpZ_gt.1 hc
      have := HC2.out
      rwa [if_pos h1] at this)
    clear hc
    go_wp2_with fail
    go_roundg (gk1 - 1)
    case measure => have := Hin.out; omega
    case rel =>
    generalize hW9 : (((w7.setCell _ _).setCell _ _).setCell _ _) = W9
    obtain ⟨hN, hU⟩ := BoxD.store hY7 s hW9
    exact ⟨i + 1, s, by have := Hin.out; omega, by go_num, hU.2.2.1 _ hK7 (Nat.le_refl _), hN, hU.okD HSo7.out, HC3.out⟩
  obtain ⟨x, hx⟩ : ∃ x, r[k]? = some x := ⟨_, List.getElem?_eq_getElem hlt2⟩
  obtain ⟨b3, o3, e3, hrd, hX7⟩ := (HRW.out.1.kp ((HK1.out.trans HKR.out).trans hks)) k x hx
  subst e3
  have Hx := Lib.hid hx
  have HX := Lib.hid (And.intro hrd (HRW.out.2.2 x (List.mem_of_getElem? hx)))
  have hj1 : (0 : Int) ≤ (k : Int) := by omega
  have hj2 : (k : Int) < (r.length : Int) := by omega
  have Hkn := Lib.hid (And.intro hkn hlt2)
  clear hx hrd hkn
  obtain ⟨s0, s1, s2, s3, s4, s5, s6⟩ := id hX7
  cases hxa : x.all with
  | true =>
    rw [hxa] at s6
    have Hxa := Lib.hid hxa
    have HE := Lib.hid (show D = none from (HC.out.symm.trans (by rw [sumN_all Hx.out hxa]; rfl)))
    have hBz := HB1.out.kp (HKR.out.trans hks)
    have hkz := HK1.out.trans (HKR.out.trans hks)
    clear hS hxa hks s0 s1 s2 s3 s4 s5 hX7
    obtain ⟨q0, q1, q2, f0, f1, f2⟩ := id hBz
    go_wp2_with fail
    generalize hW9 : (((wr.setCell _ _).setCell _ _).setCell _ _) = W9
    obtain ⟨⟨s0, s1, s2, _⟩, hU⟩ := BoxD.store hBz rdZero hW9
    clear hW9 q0 q1 q2 f0 f1 f2
    refine bodyPost_ret (v := .tuple #[.agg #[.bool rdZero.neg, .slice rdZero.a rdZero.xs.length rdZero.c, .int .i64 rdZero.e], .bool false]) (by simp [results, Tryz.results42, go_sem, s0, s1, s2]) rfl ?_
    rw [HE.out]
    exact ⟨rdZero, rfl, rdZero_rd _, rfl, rdZero_vl, hU.2.2.1 _ hkz (by omega)⟩
  | false =>
  rw [hxa] at s6 hX7
  have Hxa := Lib.hid hxa
  clear hxa
  go_upto_region 14 with fail
  go_cut [10] from 44 to 57 (fun sl wx => ∃ z2 : RD, sl = .int .i64 (adP s.dy (magP x.pl) q true).2 ∧ BoxD wx V.heap.size z2 ∧ z2.ok wx ∧ z2.dy = (adP s.dy (magP x.pl) q true).1 ∧ Kp V wx)
  case first =>
    have kd := (Kp.refl wr).drew
    have OX := Lib.hid (show x.ok wr.drew from ⟨HX.out.1.kp kd, Hxa.out, HX.out.2⟩)
    have CM := Lib.hid (show ∀ W, x.ok W → Calls Tryz.prog 93 #[.agg #[.bool x.lo.neg, .slice x.lo.a x.lo.xs.length x.lo.c, .int .i64 x.lo.e, .bool x.hi.neg, .slice x.hi.a x.hi.xs.length x.hi.c, .int .i64 x.hi.e, .bool false]] W (NumOut W (magP x.pl)) from fun W h => by have := r5mag_any x W h; rwa [Hxa.out] at this)
    have OS := Lib.hid (HSo.out.kp kd)
    have PX := Lib.hid (magP_ok (RI.pl_ok HX.out.1 HX.out.2))
    have HS := Lib.hid (hS.kp kd)
    have HKD := Lib.hid (hks.trans kd)
    obtain ⟨q0, q1, q2, f0, f1, f2⟩ := id hS
    clear kd hX7
    go_region_with
      (first
        | (go_at_call 93; (with_reducible refine (CM.out _ OX.out).mono ?_); rintro e v1 ⟨z1, rfl, rz, dz, vz, j1⟩
           have O1 := Lib.hid (show z1.ok v1 from ⟨rz, vz PX.out⟩)
           have D1 := Lib.hid dz
           have hS1 := HS.out.kp j1
           clear rz dz vz
           obtain ⟨q0, q1, q2, f0, f1, f2⟩ := id hS1)
        | (go_at_call 45; (with_reducible refine (r3add_ok s z1 hq0 hq1 true _ (OS.out.kp j1) O1.out).mono ?_); rintro e v2 ⟨z2, rfl, rz, dz, vz, j2⟩
           have O2 := Lib.hid (show z2.ok v2 from ⟨rz, vz (adP_ok _ _ hq0 hq1 true)⟩)
           have D2 := Lib.hid (And.intro dz D1.out)
           have hS2 := hS1.kp j2
           have HK2 := Lib.hid ((HKD.out.trans j1).trans j2)
           clear rz dz vz
           obtain ⟨q0, q1, q2, f0, f1, f2⟩ := id hS2)
        | fail)
    all_goals
      go_wp2_with fail
      go_meet
      case rel =>
        generalize hW9 : (((v2.setCell _ _).setCell _ _).setCell _ _) = W9
        obtain ⟨hN, hU⟩ := BoxD.store hS2 z2 hW9
        exact ⟨z2, by rw [D2.out.2], hN, hU.okD O2.out, by rw [← D2.out.2]; exact D2.out.1, hU.2.2.1 _ HK2.out (Nat.le_refl _)⟩
  case rest =>
  clear hS hks s0 s1 s2 s3 s4 s5 s6 hX7 hrc1 HX HSo
  obtain ⟨z2, rfl, hSC, hz2, d2, hKC⟩ := hcut
  have O2 := Lib.hid hz2
  have D2 := Lib.hid d2
  clear hz2 d2
  obtain ⟨W6, hW6⟩ : ∃ x : World, x = wc := ⟨_, rfl⟩
  subst hW6
  by_cases he : (adP s.dy (magP x.pl) q true).2 = 0
  · rw [he]
    have HC2 := Lib.hid (show contN q (m.drop (i + 1)) y.dy (sumN q (r.drop (k + 1)) z2.dy) = D by
      rw [D2.out, ← sumN_next Hx.out Hxa.out he]; exact HC.out)
    clear he
    go_wp2_with fail
    go_roundg (gk - 1)
    case rel => exact ⟨k + 1, z2, by have := Hkn.out; omega, by go_num, hKC, hSC, O2.out, HC2.out⟩
    case measure => have := Hkn.out; omega
  have g1 : ((adP s.dy (magP x.pl) q true).2 != 0) = true := by rw [bne, beq_eq_false_iff_ne.2 he]; rfl
  have g3 : ((adP s.dy (magP x.pl) q true).2 == 0) = false := beq_eq_false_iff_ne.2 he
  have HE := Lib.hid (show D = none from (HC.out.symm.trans (by rw [sumN_err Hx.out Hxa.out he]; rfl)))
  have hBz := HB1.out.kp (HKR.out.trans hKC)
  have hkz := HK1.out.trans (HKR.out.trans hKC)
  clear hSC hKC he
  obtain ⟨q0, q1, q2, f0, f1, f2⟩ := id hBz
  go_wp2_with fail
  generalize hW9 : (((W6.setCell _ _).setCell _ _).setCell _ _) = W9
  obtain ⟨⟨s0, s1, s2, _⟩, hU⟩ := BoxD.store hBz rdZero hW9
  clear hW9 q0 q1 q2 f0 f1 f2
  refine bodyPost_ret (v := .tuple #[.agg #[.bool rdZero.neg, .slice rdZero.a rdZero.xs.length rdZero.c, .int .i64 rdZero.e], .bool false]) (by simp [results, Tryz.results42, go_sem, s0, s1, s2]) rfl ?_
  rw [HE.out]
  exact ⟨rdZero, rfl, rdZero_rd _, rfl, rdZero_vl, hU.2.2.1 _ hkz (by omega)⟩
end Go.Proofs.YtpocjagbhiahdaaGreatDoor
