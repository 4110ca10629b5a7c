/-
  Walks: the law RoundBack.
-/
import Derived.Deep.CutRange
import Derived.Deep.DeepFit
import Derived.Test.YtndbnfeapdkoaaaDoorMSqR
import Derived.Test.YtndbnfeapdkoaaaDoorMAbsD
import Derived.Test.YtndbnfeapdkoaaaDoorMLaw3D
import Derived.Test.YtndbnfeapdkoaaaDoorMLaw3X
namespace Go.Proofs.YtndbnfeapdkoaaaDoor
open Go.RowKit

theorem Sign_rk (x : RD) (w : World) (h : x.ok w) :
    Calls Tryd.prog 11 #[.agg #[.bool x.neg, .slice x.a x.xs.length x.c, .int .i64 x.e]] w fun e w' => e = .returned (.int .i64 (sgn x.dy)) ∧ Kp w w' := by
  have H := Sign_ok x.dy x.a x.c w (rdok_at h)
  rw [rdok_limbs h] at H
  exact H
/-- is there a quotient of the product? -/
def tsB (x y : RD) : Bool := decide ((mulX x y).2 = 0) && decide (val y.xs ≠ 0)
theorem sgn_ne (d : Dy) : (sgn d != 0) = decide (d.m ≠ 0) := by
  unfold sgn
  by_cases h : d.m = 0
  · rw [if_pos h, decide_eq_false (by simpa using h)]; rfl
  · rw [if_neg h, decide_eq_true h]; cases d.neg <;> rfl
theorem sqE_zero {x : RD} {p : Int} : sqE x p = 0 ↔ x.vl = true ∧ x.neg = false ∧ 8 ≤ p ∧ p ≤ 512 := by
  have hz := fltB_zero (p := p) (ys := [x])
  unfold sqE
  by_cases h : fltB p [x] = 0
  · rw [if_pos h]
    obtain ⟨h1, h2⟩ := hz.1 h
    have h3 : x.vl = true := by simpa using h1
    cases hn : x.neg <;> simp [h2, h3]
  · rw [if_neg h]
    constructor
    · intro k; exact absurd k h
    · rintro ⟨h1, _, h2⟩
      exact absurd (hz.2 ⟨by simp [h1], h2⟩) h
theorem low_of {u y z Q : Int} (hQ : 0 < Q) (h1 : u * Q = z) (h2 : z ≤ y * Q) : u ≤ y := Int.le_of_mul_le_mul_right (by rw [h1]; exact h2) hQ
theorem high_of {v y z Q : Int} (hQ : 0 < Q) (h1 : v * Q = z) (h2 : y * Q ≤ z) : y ≤ v := Int.le_of_mul_le_mul_right (by rw [h1]; exact h2) hQ
theorem divDown_back (m x y : RD) (p : Int) (w : World) (hm : m.rd w) (hy : y.rd w) (hT : Tab w) (hb : divB m y p false = rndB x p false) :
    Calls Tryd.prog 6 #[.agg #[.bool m.neg, .slice m.a m.xs.length m.c, .int .i64 m.e], .agg #[.bool y.neg, .slice y.a y.xs.length y.c, .int .i64 y.e], .int .i64 p] w (NumE w (rndB x p false).1 (rndB x p false).2) := by
  rw [← hb]
  exact rDivDown_of m y p _ _ w fun W k => div_rd m y p false W (hm.kp k) (hy.kp k) (hT.kp k)
theorem divUp_back (m x y : RD) (p : Int) (w : World) (hm : m.rd w) (hy : y.rd w) (hT : Tab w) (hb : divB m y p true = rndB x p true) :
    Calls Tryd.prog 8 #[.agg #[.bool m.neg, .slice m.a m.xs.length m.c, .int .i64 m.e], .agg #[.bool y.neg, .slice y.a y.xs.length y.c, .int .i64 y.e], .int .i64 p] w (NumE w (rndB x p true).1 (rndB x p true).2) := by
  rw [← hb]
  exact rDivUp_of m y p _ _ w fun W k => div_rd m y p true W (hm.kp k) (hy.kp k) (hT.kp k)
set_option maxRecDepth 100000 in
set_option maxHeartbeats 32000000 in
theorem Back_ok (x y : RD) (p : Int) (w : World) (hx : x.rd w) (hy : y.rd w) (hT : Tab w) :
    Calls Tryd.prog 4 #[.agg #[.bool x.neg, .slice x.a x.xs.length x.c, .int .i64 x.e], .agg #[.bool y.neg, .slice y.a y.xs.length y.c, .int .i64 y.e], .int .i64 p] w fun e w' => e = .returned (.bool true) ∧ Kp w w' := by
  go_enter Tryd.func4, Tryd.ntmps4
  go_upto_region 1 with fail
  generalize hW : ((w.alloc _).alloc _) = W at *
  have hk : Kp w W := hW ▸ ((Kp.refl w).alloc _).alloc _
  have hS : W.cell? ⟨w.heap.size, 0, none⟩ = some (.bool x.neg) ∧ W.cell? ⟨w.heap.size, 1, none⟩ = some (.slice x.a x.xs.length x.c) ∧ W.cell? ⟨w.heap.size, 2, none⟩ = some (.int .i64 x.e) ∧ W.cell? ⟨w.heap.size + 1, 0, none⟩ = some (.bool y.neg) ∧ W.cell? ⟨w.heap.size + 1, 1, none⟩ = some (.slice y.a y.xs.length y.c) ∧ W.cell? ⟨w.heap.size + 1, 2, none⟩ = some (.int .i64 y.e) := by rw [← hW]; exact keep6 (Kp.refl _) (by simp)
  clear hW
  go_cut [28] from 27 to 28 (fun s wx => s = .bool false ∧ Kp W wx)
  case first =>
    go_wp2_with fail
    refine (awake3_ok _ (hT.kp hk)).mono ?_
    rintro e w1 ⟨rfl, k1⟩
    go_wp2_with fail
    go_meet
    case rel => exact ⟨rfl, k1⟩
  case rest =>
    obtain ⟨rfl, k1⟩ := hcut
    have hS1 := keepRR k1 hS
    have h1 := hk.trans k1
    have hx1 := hx.kp h1
    have hy1 := hy.kp h1
    have hT1 := hT.kp h1
    clear hk k1 hS
    obtain ⟨W1, hW1⟩ : ∃ W1 : World, W1 = wc := ⟨_, rfl⟩
    subst hW1
    by_cases hg : (30 : Int) < (x.xs.length : Int)
    ·
      obtain ⟨s0, s1, s2, t0, t1, t2⟩ := hS1
      go_wp2_with fail
      go_ret
      exact ⟨rfl, h1⟩
    by_cases hg2 : (30 : Int) < (y.xs.length : Int)
    ·
      obtain ⟨s0, s1, s2, t0, t1, t2⟩ := hS1
      go_wp2_with fail
      go_ret
      exact ⟨rfl, h1⟩
    by_cases hg3 : p < 8
    ·
      obtain ⟨s0, s1, s2, t0, t1, t2⟩ := hS1
      go_wp2_with fail
      go_ret
      exact ⟨rfl, h1⟩
    by_cases hg4 : 512 < p
    ·
      obtain ⟨s0, s1, s2, t0, t1, t2⟩ := hS1
      go_wp2_with fail
      go_ret
      exact ⟨rfl, h1⟩
    have hp0 : 8 ≤ p := by omega
    have hp1 : p ≤ 512 := by omega
    obtain ⟨s0, s1, s2, t0, t1, t2⟩ := id hS1
    go_wp2_with fail
    refine (Mul_raw x y _ hx1 hy1 hT1).mono ?_
    rintro e w2 ⟨m, rfl, rm, dm, vm, k2⟩
    have ka := (Kp.refl w2).alloc (.cells #[.bool m.neg, .slice m.a m.xs.length m.c, .int .i64 m.e] 24)
    have k2a := k2.trans ka
    have om := Lib.hid ((show m.ok w2 from ⟨rm, vm (mulX_ok x y)⟩).kp ka)
    have DM := Lib.hid dm
    have hS2 := keepRR k2a hS1
    have h2 := h1.trans k2a
    have hx2 := hx1.kp k2a
    have hy2 := hy1.kp k2a
    have hT2 := hT1.kp k2a
    clear hS1 h1 hx1 hy1 hT1 k2 k2a rm dm vm s0 s1 s2 t0 t1 t2 hg hg2 hg3 hg4
    go_upto_region 6 with fail
    generalize hA2 : w2.alloc _ = A2 at *
    have hM : A2.cell? ⟨w2.heap.size, 0, none⟩ = some (.bool m.neg) ∧ A2.cell? ⟨w2.heap.size, 1, none⟩ = some (.slice m.a m.xs.length m.c) ∧ A2.cell? ⟨w2.heap.size, 2, none⟩ = some (.int .i64 m.e) := by rw [← hA2]; simp
    clear hA2 ka
    go_cut [59] from 53 to 59 (fun s wx => s = .bool (tsB x y) ∧ Kp A2 wx)
    case first =>
      by_cases h0 : (mulX x y).2 = 0
      · have hz : ((mulX x y).2 == 0) = true := beq_iff_eq.2 h0
        have HB := Lib.hid (show (sgn y.dy != 0) = tsB x y by rw [sgn_ne]; unfold tsB; rw [decide_eq_true h0]; rfl)
        have vy := (mulX_dy h0).2.1
        obtain ⟨s0, s1, s2, t0, t1, t2⟩ := id hS2
        have h0h := Lib.hid h0
        clear h0
        go_wp2_with fail
        refine (Sign_rk y _ ⟨hy2, vy⟩).mono ?_
        rintro e w3 ⟨rfl, k3⟩
        have HB2 := HB.out
        go_wp2_with fail
        go_meet
        case rel => exact ⟨rfl, k3⟩
      · have hz : ((mulX x y).2 == 0) = false := beq_eq_false_iff_ne.2 h0
        have HB := Lib.hid (show tsB x y = false by unfold tsB; rw [decide_eq_false h0]; rfl)
        clear h0
        go_wp2_with fail
        go_meet
        case rel => exact ⟨by rw [HB.out], .refl _⟩
    case rest =>
      obtain ⟨rfl, k3⟩ := hcut
      have hS3 := keepRR k3 hS2
      have hM3 := keep3 k3 hM
      have h3 := h2.trans k3
      have hx3 := hx2.kp k3
      have hy3 := hy2.kp k3
      have hT3 := hT2.kp k3
      have om3 := Lib.hid (om.out.kp k3)
      clear k3 hS2 hM h2 hx2 hy2 hT2 om
      obtain ⟨W3, hW3⟩ : ∃ W3 : World, W3 = wc := ⟨_, rfl⟩
      subst hW3
      go_upto_if 59 with fail
      go_cut [] from 59 to 114 (fun wx => Kp W3 wx)
      case first =>
        cases hts : tsB x y with
        | false =>
          go_wp2_with fail
          go_meet
          case rel => exact .refl _
        | true =>
          have h0 : (mulX x y).2 = 0 ∧ val y.xs ≠ 0 := by
            unfold tsB at hts
            rw [Bool.and_eq_true, decide_eq_true_eq, decide_eq_true_eq] at hts
            exact hts
          obtain ⟨vx, vy, em, _⟩ := mulX_dy h0.1
          have HX := Lib.hid (show x.ok W3 from ⟨hx3, vx⟩)
          have hb (up : Bool) : divB m y p up = rndB x p up := divB_back om3.out ⟨hx3, vx⟩ ⟨hy3, vy⟩ h0.2 (DM.out.trans em) hp0 hp1 up
          have HB := Lib.hid hb
          clear hts h0 vx vy em hb
          have hq := divDown_back m x y p W3 om3.out.1 hy3 hT3 (HB.out false)
          have Hq := Lib.hid hq
          clear hq
          obtain ⟨s0, s1, s2, t0, t1, t2⟩ := id hS3
          obtain ⟨m0, m1, m2⟩ := id hM3
          go_wp2_with fail
          refine Hq.out.mono ?_
          rintro e w4 ⟨z1, rfl, rz, dz, vz, k4⟩
          have ka := (Kp.refl w4).alloc (.cells #[.bool z1.neg, .slice z1.a z1.xs.length z1.c, .int .i64 z1.e] 24)
          have k4a := k4.trans ka
          have o1 := Lib.hid ((show z1.ok w4 from ⟨rz, vz (rndB_ok x p false)⟩).kp ka)
          have D1 := Lib.hid dz
          have hS4 := keepRR k4a hS3
          have hM4 := keep3 k4a hM3
          have hx4 := Lib.hid (HX.out.kp k4a)
          have hy4 := hy3.kp k4a
          have hT4 := hT3.kp k4a
          have om4 := Lib.hid (om3.out.kp k4a)
          clear Hq hS3 hM3 h3 hx3 hy3 hT3 om3 HX rz dz vz s0 s1 s2 t0 t1 t2 m0 m1 m2
          go_upto_region 8 with fail
          generalize hA4 : w4.alloc _ = A4 at *
          have hZ1 : A4.cell? ⟨w4.heap.size, 0, none⟩ = some (.bool z1.neg) ∧ A4.cell? ⟨w4.heap.size, 1, none⟩ = some (.slice z1.a z1.xs.length z1.c) ∧ A4.cell? ⟨w4.heap.size, 2, none⟩ = some (.int .i64 z1.e) := by rw [← hA4]; simp
          clear hA4 ka k4
          have hq := divUp_back m x y p A4 om4.out.1 hy4 hT4 (HB.out true)
          have Hq := Lib.hid hq
          clear hq
          obtain ⟨s0, s1, s2, t0, t1, t2⟩ := id hS4
          obtain ⟨m0, m1, m2⟩ := id hM4
          go_wp2_with fail
          refine Hq.out.mono ?_
          rintro e w5 ⟨z2, rfl, rz, dz, vz, k5⟩
          have ka := (Kp.refl w5).alloc (.cells #[.bool z2.neg, .slice z2.a z2.xs.length z2.c, .int .i64 z2.e] 24)
          have k5a := k5.trans ka
          have o2 := Lib.hid ((show z2.ok w5 from ⟨rz, vz (rndB_ok x p true)⟩).kp ka)
          have D2 := Lib.hid dz
          have hS5 := keepRR k5a hS4
          have hZ1b := keep3 k5a hZ1
          have o1b := Lib.hid (o1.out.kp k5a)
          have hx5 := Lib.hid (hx4.out.kp k5a)
          have h5 := k4a.trans k5a
          clear Hq hS4 hM4 hx4 hy4 hT4 om4 o1 rz dz vz s0 s1 s2 t0 t1 t2 m0 m1 m2 k4a k5a hZ1
          go_upto_region 9 with fail
          generalize hA5 : w5.alloc _ = A5 at *
          have hZ2 : A5.cell? ⟨w5.heap.size, 0, none⟩ = some (.bool z2.neg) ∧ A5.cell? ⟨w5.heap.size, 1, none⟩ = some (.slice z2.a z2.xs.length z2.c) ∧ A5.cell? ⟨w5.heap.size, 2, none⟩ = some (.int .i64 z2.e) := by rw [← hA5]; simp
          clear hA5 ka k5
          go_cut [91] from 74 to 91 (fun s wx => s = .bool false ∧ Kp A5 wx)
          case first =>
            have L1 := Lib.hid (fun h => (show z1.iv ≤ x.iv by show z1.dy.iv ≤ _; rw [D1.out]; exact rndB_le hx5.out h))
            have L2 := Lib.hid (fun h => (show x.iv ≤ z2.iv by show _ ≤ z2.dy.iv; rw [D2.out]; exact rndB_ge hx5.out h))
            obtain ⟨s0, s1, s2, t0, t1, t2⟩ := id hS5
            obtain ⟨m0, m1, m2⟩ := id hZ1b
            obtain ⟨n0, n1, n2⟩ := id hZ2
            by_cases hc1 : (rndB x p false).2 = 0
            · have hz1 : ((rndB x p false).2 == 0) = true := beq_iff_eq.2 hc1
              have g1 : decide ((0 : Int) < cmpZ z1.iv x.iv) = false := decide_eq_false (by have := cmp_le (L1.out hc1); omega)
              by_cases hc2 : (rndB x p true).2 = 0
              · have hz2 : ((rndB x p true).2 == 0) = true := beq_iff_eq.2 hc2
                have g2 : decide ((0 : Int) < cmpZ x.iv z2.iv) = false := decide_eq_false (by have := cmp_le (L2.out hc2); omega)
                clear hc1 hc2
                go_wp2_with fail
                refine (Cmp_raw z1 x _ o1b.out.1 hx5.out.1 o1b.out.2 hx5.out.2).mono ?_
                rintro e w6 ⟨rfl, k6⟩
                have hS6 := keepRR k6 hS5
                have hZ26 := keep3 k6 hZ2
                clear s0 s1 s2 t0 t1 t2 m0 m1 m2 n0 n1 n2
                obtain ⟨s0, s1, s2, t0, t1, t2⟩ := id hS6
                obtain ⟨n0, n1, n2⟩ := id hZ26
                go_wp2_with fail
                refine (Cmp_raw x z2 _ (hx5.out.1.kp k6) (o2.out.1.kp k6) hx5.out.2 o2.out.2).mono ?_
                rintro e w7 ⟨rfl, k7⟩
                go_wp2_with fail
                go_meet
                case rel => exact ⟨rfl, k6.trans k7⟩
              · have hz2 : ((rndB x p true).2 == 0) = false := beq_eq_false_iff_ne.2 hc2
                clear hc1 hc2
                go_wp2_with fail
                refine (Cmp_raw z1 x _ o1b.out.1 hx5.out.1 o1b.out.2 hx5.out.2).mono ?_
                rintro e w6 ⟨rfl, k6⟩
                go_wp2_with fail
                go_meet
                case rel => exact ⟨rfl, k6⟩
            · have hz1 : ((rndB x p false).2 == 0) = false := beq_eq_false_iff_ne.2 hc1
              by_cases hc2 : (rndB x p true).2 = 0
              · have hz2 : ((rndB x p true).2 == 0) = true := beq_iff_eq.2 hc2
                have g2 : decide ((0 : Int) < cmpZ x.iv z2.iv) = false := decide_eq_false (by have := cmp_le (L2.out hc2); omega)
                clear hc1 hc2
                go_wp2_with fail
                refine (Cmp_raw x z2 _ hx5.out.1 o2.out.1 hx5.out.2 o2.out.2).mono ?_
                rintro e w7 ⟨rfl, k7⟩
                go_wp2_with fail
                go_meet
                case rel => exact ⟨rfl, k7⟩
              · have hz2 : ((rndB x p true).2 == 0) = false := beq_eq_false_iff_ne.2 hc2
                clear hc1 hc2
                go_wp2_with fail
                go_meet
                case rel => exact ⟨rfl, .refl _⟩
          case rest =>
            obtain ⟨rfl, k6⟩ := hcut
            have hS6 := keepRR k6 hS5
            have hZ1c := keep3 k6 hZ1b
            have hZ2c := keep3 k6 hZ2
            have o1c := Lib.hid (o1b.out.kp k6)
            have o2c := Lib.hid (o2.out.kp k6)
            have hx6 := Lib.hid (hx5.out.kp k6)
            have h6 := h5.trans k6
            clear k6 hS5 hZ1b hZ2 o1b o2 hx5 h5
            obtain ⟨W6, hW6⟩ : ∃ W6 : World, W6 = wc := ⟨_, rfl⟩
            subst hW6
            obtain ⟨s0, s1, s2, t0, t1, t2⟩ := id hS6
            obtain ⟨m0, m1, m2⟩ := id hZ1c
            obtain ⟨n0, n1, n2⟩ := id hZ2c
            go_wp2_with fail
            refine (Is_any x p _ hx6.out.1).mono ?_
            rintro e w7 ⟨rfl, k7⟩
            cases hI : isB x p with
            | false =>
              clear hI
              go_wp2_with fail
              go_meet
              case rel => exact h6.trans k7
            | true =>
              have hr1 := rndB_self hx6.out hI false
              have hr2 := rndB_self hx6.out hI true
              have e1 : (rndB x p false).2 = 0 := by rw [hr1]
              have e2 : (rndB x p true).2 = 0 := by rw [hr2]
              rw [e1, e2]
              have G1 := Lib.hid (sameR_dy (o1c.out.kp k7) (hx6.out.kp k7) (show z1.dy = x.dy by rw [D1.out, hr1]))
              have G2 := Lib.hid (sameR_dy (o2c.out.kp k7) (hx6.out.kp k7) (show z2.dy = x.dy by rw [D2.out, hr2]))
              have hS7 := keepRR k7 hS6
              have hZ1d := keep3 k7 hZ1c
              have hZ2d := keep3 k7 hZ2c
              clear hI hr1 hr2 e1 e2 s0 s1 s2 t0 t1 t2 m0 m1 m2 n0 n1 n2
              obtain ⟨s0, s1, s2, t0, t1, t2⟩ := id hS7
              obtain ⟨m0, m1, m2⟩ := id hZ1d
              go_wp2_with fail
              refine (same_any z1 x _ (o1c.out.1.kp k7) (hx6.out.1.kp k7)).mono ?_
              rw [G1.out]
              rintro e w8 ⟨rfl, k8⟩
              have hS8 := keepRR k8 hS7
              have hZ2e := keep3 k8 hZ2d
              clear s0 s1 s2 t0 t1 t2 m0 m1 m2
              obtain ⟨s0, s1, s2, t0, t1, t2⟩ := id hS8
              obtain ⟨m0, m1, m2⟩ := id hZ2e
              go_wp2_with fail
              refine (same_any z2 x _ ((o2c.out.1.kp k7).kp k8) ((hx6.out.1.kp k7).kp k8)).mono ?_
              rw [G2.out]
              rintro e w9 ⟨rfl, k9⟩
              go_wp2_with fail
              go_meet
              case rel => exact ((h6.trans k7).trans k8).trans k9
      case rest =>
        have k4 := hcut
        clear hcut
        have hS4 := keepRR k4 hS3
        have h4 := h3.trans k4
        have hx4 := hx3.kp k4
        have hy4 := hy3.kp k4
        have hT4 := hT3.kp k4
        clear k4 hS3 hM3 h3 hx3 hy3 hT3 om3 DM
        obtain ⟨W4, hW4⟩ : ∃ W4 : World, W4 = wc := ⟨_, rfl⟩
        subst hW4
        obtain ⟨s0, s1, s2, t0, t1, t2⟩ := id hS4
        go_wp2_with fail
        refine (Mul_raw x x _ hx4 hx4 hT4).mono ?_
        rintro e w5 ⟨q, rfl, rq, dq, vq, k5⟩
        have ka := (Kp.refl w5).alloc (.cells #[.bool q.neg, .slice q.a q.xs.length q.c, .int .i64 q.e] 24)
        have k5a := k5.trans ka
        have oq := Lib.hid ((show q.ok w5 from ⟨rq, vq (mulX_ok x x)⟩).kp ka)
        have DQ := Lib.hid dq
        have hS5 := keepRR k5a hS4
        have h5 := h4.trans k5a
        have hx5 := hx4.kp k5a
        have hy5 := hy4.kp k5a
        have hT5 := hT4.kp k5a
        clear hS4 h4 hx4 hy4 hT4 k5 k5a rq dq vq s0 s1 s2 t0 t1 t2
        go_upto_if 122 with fail
        generalize hA5 : w5.alloc _ = A5 at *
        have hQ : A5.cell? ⟨w5.heap.size, 0, none⟩ = some (.bool q.neg) ∧ A5.cell? ⟨w5.heap.size, 1, none⟩ = some (.slice q.a q.xs.length q.c) ∧ A5.cell? ⟨w5.heap.size, 2, none⟩ = some (.int .i64 q.e) := by rw [← hA5]; simp
        clear hA5 ka
        go_cut [] from 122 to 154 (fun wx => Kp A5 wx)
        case first =>
          by_cases h0 : (mulX x x).2 = 0
          · have hz : ((mulX x x).2 == 0) = true := beq_iff_eq.2 h0
            have vx := (mulX_dy h0).1
            have HX := Lib.hid (show x.ok A5 from ⟨hx5, vx⟩)
            obtain ⟨D, hD1, hD2, hD3⟩ := sqrt_rd q p A5 oq.out.1
            have hE : sqE q p = 0 := sqE_zero.2 ⟨oq.out.2, square_neg hx5 h0 oq.out DQ.out, hp0, hp1⟩
            have hQv : q.iv * 2 ^ 16384 = x.iv * x.iv := by
              have := mulX_iv hx5 hx5 h0
              rw [← DQ.out] at this; exact this
            have hsq := hD3 hE
            have L1 := Lib.hid (sqS_le (hsq false).2.1 hQv (hsq false).2.2)
            have L2 := Lib.hid (sqS_ge (hsq true).2.1 hQv (hsq true).2.2)
            rw [hE] at hD1
            have H1 := Lib.hid (rSqrtDown_of q p (D false) 0 A5 (fun W k => hD1 false W (oq.out.1.kp k) (hT5.kp k)))
            have H2 := Lib.hid hD1
            have V := Lib.hid hD2
            clear h0 vx hE hQv hsq hD1 hD2 hD3
            obtain ⟨m0, m1, m2⟩ := id hQ
            go_wp2_with fail
            refine H1.out.mono ?_
            rintro e w6 ⟨z1, rfl, rz, dz, vz, k6⟩
            have ka := (Kp.refl w6).alloc (.cells #[.bool z1.neg, .slice z1.a z1.xs.length z1.c, .int .i64 z1.e] 24)
            have k6a := k6.trans ka
            have o1 := Lib.hid ((show z1.ok w6 from ⟨rz, vz (V.out false)⟩).kp ka)
            have D1 := Lib.hid dz
            have hS6 := keepRR k6a hS5
            have hQ6 := keep3 k6a hQ
            have hx6 := Lib.hid (HX.out.kp k6a)
            have hT6 := hT5.kp k6a
            have oq6 := Lib.hid (oq.out.kp k6a)
            clear H1 hS5 hQ h5 hx5 hy5 hT5 oq HX rz dz vz m0 m1 m2 k6
            go_upto_region 16 with fail
            generalize hA6 : w6.alloc _ = A6 at *
            have hZ1 : A6.cell? ⟨w6.heap.size, 0, none⟩ = some (.bool z1.neg) ∧ A6.cell? ⟨w6.heap.size, 1, none⟩ = some (.slice z1.a z1.xs.length z1.c) ∧ A6.cell? ⟨w6.heap.size, 2, none⟩ = some (.int .i64 z1.e) := by rw [← hA6]; simp
            clear hA6 ka
            have H3 := Lib.hid (rSqrtUp_of q p (D true) 0 A6 (fun W k => H2.out true W (oq6.out.1.kp k) (hT6.kp k)))
            obtain ⟨m0, m1, m2⟩ := id hQ6
            go_wp2_with fail
            refine H3.out.mono ?_
            rintro e w7 ⟨z2, rfl, rz, dz, vz, k7⟩
            have ka := (Kp.refl w7).alloc (.cells #[.bool z2.neg, .slice z2.a z2.xs.length z2.c, .int .i64 z2.e] 24)
            have k7a := k7.trans ka
            have o2 := Lib.hid ((show z2.ok w7 from ⟨rz, vz (V.out true)⟩).kp ka)
            have D2 := Lib.hid dz
            have hS7 := keepRR k7a hS6
            have hZ1b := keep3 k7a hZ1
            have o1b := Lib.hid (o1.out.kp k7a)
            have hx7 := Lib.hid (hx6.out.kp k7a)
            have h7 := k6a.trans k7a
            clear H3 H2 hS6 hQ6 hx6 hT6 oq6 o1 rz dz vz m0 m1 m2 k6a k7a hZ1 V
            go_upto_region 17 with fail
            generalize hA7 : w7.alloc _ = A7 at *
            have hZ2 : A7.cell? ⟨w7.heap.size, 0, none⟩ = some (.bool z2.neg) ∧ A7.cell? ⟨w7.heap.size, 1, none⟩ = some (.slice z2.a z2.xs.length z2.c) ∧ A7.cell? ⟨w7.heap.size, 2, none⟩ = some (.int .i64 z2.e) := by rw [← hA7]; simp
            clear hA7 ka k7
            have L3 := Lib.hid (show (x.iv.natAbs : Int) ≤ z2.iv by show _ ≤ z2.dy.iv; rw [D2.out]; exact L2.out)
            have L4 := Lib.hid (show z1.iv ≤ (x.iv.natAbs : Int) by show z1.dy.iv ≤ _; rw [D1.out]; exact L1.out)
            have kd := (Kp.refl A7).drew
            have h7d := h7.trans kd
            have hSS := keepS9 kd ⟨hZ1b.1, hZ1b.2.1, hZ1b.2.2, hZ2.1, hZ2.2.1, hZ2.2.2, ⟨hS7.1, hS7.2.1, hS7.2.2.1⟩⟩
            have oX := Lib.hid (hx7.out.kp kd)
            have O1 := Lib.hid (o1b.out.kp kd)
            have O2 := Lib.hid (o2.out.kp kd)
            clear h7 hZ1b hZ2 hS7 hx7 o1b o2 L1 L2
            go_region_held3 (fun w' => w'.cell? ⟨w6.heap.size, 0, none⟩ = some (.bool z1.neg) ∧ w'.cell? ⟨w6.heap.size, 1, none⟩ = some (.slice z1.a z1.xs.length z1.c) ∧ w'.cell? ⟨w6.heap.size, 2, none⟩ = some (.int .i64 z1.e) ∧ w'.cell? ⟨w7.heap.size, 0, none⟩ = some (.bool z2.neg) ∧ w'.cell? ⟨w7.heap.size, 1, none⟩ = some (.slice z2.a z2.xs.length z2.c) ∧ w'.cell? ⟨w7.heap.size, 2, none⟩ = some (.int .i64 z2.e) ∧ w'.cell? ⟨w.heap.size, 0, none⟩ = some (.bool x.neg) ∧ w'.cell? ⟨w.heap.size, 1, none⟩ = some (.slice x.a x.xs.length x.c) ∧ w'.cell? ⟨w.heap.size, 2, none⟩ = some (.int .i64 x.e)) (first | with_reducible assumption | with_reducible exact keepS9 (by assumption) (by assumption))
              (first
                | (go_at_call 17; (with_reducible refine (Abs_ok x _ oX.out).mono ?_); rintro e q1 ⟨ua, rfl, ra, da, va, j1⟩
                   have oa := Lib.hid (show ua.ok q1 from ⟨ra, va (Dy.absv_ok (rdok_dy oX.out))⟩)
                   have DA := Lib.hid da
                   have g1 : decide ((0 : Int) < cmpZ ua.iv z2.iv) = false := decide_eq_false (by
                     have h9 : ua.iv = (x.iv.natAbs : Int) := by show ua.dy.iv = _; rw [DA.out]; exact Dy.absv_iv
                     have := cmp_le (show ua.iv ≤ z2.iv by rw [h9]; exact L3.out); omega)
                   clear ra da va)
                | (go_at_call 12; go_fit (Cmp_raw ua z2 q1 oa.out.1 (O2.out.1.kp j1) oa.out.2 O2.out.2); rintro e q2 ⟨rfl, j2⟩)
                | (go_at_call 17; (with_reducible refine (Abs_ok x _ ((oX.out.kp j1).kp j2)).mono ?_); rintro e q3 ⟨ub, rfl, rb, db, vb, j3⟩
                   have ob := Lib.hid (show ub.ok q3 from ⟨rb, vb (Dy.absv_ok (rdok_dy oX.out))⟩)
                   have DB := Lib.hid db
                   have g2 : decide ((0 : Int) < cmpZ z1.iv ub.iv) = false := decide_eq_false (by
                     have h9 : ub.iv = (x.iv.natAbs : Int) := by show ub.dy.iv = _; rw [DB.out]; exact Dy.absv_iv
                     have := cmp_le (show z1.iv ≤ ub.iv by rw [h9]; exact L4.out); omega)
                   clear rb db vb)
                | (go_at_call 12; go_fit (Cmp_raw z1 ub q3 (((O1.out.1.kp j1).kp j2).kp j3) ob.out.1 O1.out.2 ob.out.2); rintro e q4 ⟨rfl, j4⟩)
                | fail)
            go_wp2_with fail
            go_meet
            case rel => exact (((h7d.trans j1).trans j2).trans j3).trans j4
          · have hz : ((mulX x x).2 == 0) = false := beq_eq_false_iff_ne.2 h0
            clear h0
            go_wp2_with fail
            go_meet
            case rel => exact .refl _
        case rest =>
          have k6 := hcut
          clear hcut
          have hS6 := keepRR k6 hS5
          have h6 := h5.trans k6
          have hy6 := hy5.kp k6
          have hT6 := hT5.kp k6
          clear k6 hS5 hQ h5 hx5 hy5 hT5 oq DQ
          obtain ⟨W6, hW6⟩ : ∃ W6 : World, W6 = wc := ⟨_, rfl⟩
          subst hW6
          obtain ⟨D, hD1, hD2, hD3⟩ := sqrt_rd y p W6 hy6
          have H1 := Lib.hid (rSqrtDown_of y p (D false) (sqE y p) W6 (fun W k => hD1 false W (hy6.kp k) (hT6.kp k)))
          have H2 := Lib.hid hD1
          have V := Lib.hid hD2
          have HS := Lib.hid hD3
          clear hD1 hD2 hD3
          obtain ⟨s0, s1, s2, t0, t1, t2⟩ := id hS6
          go_wp2_with fail
          refine H1.out.mono ?_
          rintro e w7 ⟨z1, rfl, rz, dz, vz, k7⟩
          have ka := (Kp.refl w7).alloc (.cells #[.bool z1.neg, .slice z1.a z1.xs.length z1.c, .int .i64 z1.e] 24)
          have k7a := k7.trans ka
          have o1 := Lib.hid ((show z1.ok w7 from ⟨rz, vz (V.out false)⟩).kp ka)
          have D1 := Lib.hid dz
          have hS7 := keepRR k7a hS6
          have hy7 := hy6.kp k7a
          have hT7 := hT6.kp k7a
          have h7 := h6.trans k7a
          clear H1 hS6 h6 hy6 hT6 rz dz vz s0 s1 s2 t0 t1 t2 k7 k7a
          go_upto_region 20 with fail
          generalize hA7 : w7.alloc _ = A7 at *
          have hZ1 : A7.cell? ⟨w7.heap.size, 0, none⟩ = some (.bool z1.neg) ∧ A7.cell? ⟨w7.heap.size, 1, none⟩ = some (.slice z1.a z1.xs.length z1.c) ∧ A7.cell? ⟨w7.heap.size, 2, none⟩ = some (.int .i64 z1.e) := by rw [← hA7]; simp
          clear hA7 ka
          have H3 := Lib.hid (rSqrtUp_of y p (D true) (sqE y p) A7 (fun W k => H2.out true W (hy7.kp k) (hT7.kp k)))
          obtain ⟨s0, s1, s2, t0, t1, t2⟩ := id hS7
          go_wp2_with fail
          refine H3.out.mono ?_
          rintro e w8 ⟨z2, rfl, rz, dz, vz, k8⟩
          have ka := (Kp.refl w8).alloc (.cells #[.bool z2.neg, .slice z2.a z2.xs.length z2.c, .int .i64 z2.e] 24)
          have k8a := k8.trans ka
          have o2 := Lib.hid ((show z2.ok w8 from ⟨rz, vz (V.out true)⟩).kp ka)
          have D2 := Lib.hid dz
          have hS8 := keepRR k8a hS7
          have hZ1b := keep3 k8a hZ1
          have o1b := Lib.hid (o1.out.kp k8a)
          have hy8 := hy7.kp k8a
          have hT8 := hT7.kp k8a
          have h8 := h7.trans k8a
          clear H3 H2 hS7 h7 hy7 hT7 o1 rz dz vz s0 s1 s2 t0 t1 t2 k8 k8a hZ1 V
          go_upto_region 21 with fail
          generalize hA8 : w8.alloc _ = A8 at *
          have hZ2 : A8.cell? ⟨w8.heap.size, 0, none⟩ = some (.bool z2.neg) ∧ A8.cell? ⟨w8.heap.size, 1, none⟩ = some (.slice z2.a z2.xs.length z2.c) ∧ A8.cell? ⟨w8.heap.size, 2, none⟩ = some (.int .i64 z2.e) := by rw [← hA8]; simp
          clear hA8 ka
          by_cases hE : sqE y p = 0
          ·
            have hsq := HS.out hE
            have vy := (sqE_zero.1 hE).1
            have oy := Lib.hid (show y.ok A8 from ⟨hy8, vy⟩)
            have L1 := Lib.hid (hsq false).2.2
            have L2 := Lib.hid (hsq true).2.2
            rw [hE]
            clear HS hE hsq vy
            obtain ⟨m0, m1, m2⟩ := id hZ1b
            go_wp2_with fail
            refine (Mul_raw z1 z1 _ o1b.out.1 o1b.out.1 hT8).mono ?_
            rintro e w9 ⟨u, rfl, rz, dz, vz, k9⟩
            have ka := (Kp.refl w9).alloc (.cells #[.bool u.neg, .slice u.a u.xs.length u.c, .int .i64 u.e] 24)
            have k9a := k9.trans ka
            have ou := Lib.hid ((show u.ok w9 from ⟨rz, vz (mulX_ok z1 z1)⟩).kp ka)
            have DU := Lib.hid dz
            have hS9 := keepRR k9a hS8
            have hZ29 := keep3 k9a hZ2
            have o19 := Lib.hid (o1b.out.kp k9a)
            have o29 := Lib.hid (o2.out.kp k9a)
            have oy9 := Lib.hid (oy.out.kp k9a)
            have hT9 := hT8.kp k9a
            have h9 := h8.trans k9a
            clear hS8 hZ1b hZ2 o1b o2 oy hy8 hT8 h8 k9 k9a rz dz vz m0 m1 m2
            go_upto_region 24 with fail
            generalize hA9 : w9.alloc _ = A9 at *
            have hU : A9.cell? ⟨w9.heap.size, 0, none⟩ = some (.bool u.neg) ∧ A9.cell? ⟨w9.heap.size, 1, none⟩ = some (.slice u.a u.xs.length u.c) ∧ A9.cell? ⟨w9.heap.size, 2, none⟩ = some (.int .i64 u.e) := by rw [← hA9]; simp
            clear hA9 ka
            obtain ⟨m0, m1, m2⟩ := id hZ29
            go_wp2_with fail
            refine (Mul_raw z2 z2 _ o29.out.1 o29.out.1 hT9).mono ?_
            rintro e wa ⟨v, rfl, rz, dz, vz, k10⟩
            have ka := (Kp.refl wa).alloc (.cells #[.bool v.neg, .slice v.a v.xs.length v.c, .int .i64 v.e] 24)
            have k10a := k10.trans ka
            have ov := Lib.hid ((show v.ok wa from ⟨rz, vz (mulX_ok z2 z2)⟩).kp ka)
            have DV := Lib.hid dz
            have hSa := keepRR k10a hS9
            have hUa := keep3 k10a hU
            have oua := Lib.hid (ou.out.kp k10a)
            have oya := Lib.hid (oy9.out.kp k10a)
            have ha := h9.trans k10a
            have M1 := Lib.hid (fun h => (show u.iv ≤ y.iv by
              have h1 := mulX_iv o19.out.1 o19.out.1 h
              rw [← DU.out] at h1
              have h2 : z1.iv * z1.iv ≤ y.iv * 2 ^ 16384 := by show z1.dy.iv * z1.dy.iv ≤ _; rw [D1.out]; exact L1.out
              exact low_of (posTwo 16384) h1 h2))
            have M2 := Lib.hid (fun h => (show y.iv ≤ v.iv by
              have h1 := mulX_iv o29.out.1 o29.out.1 h
              rw [← DV.out] at h1
              have h2 : y.iv * 2 ^ 16384 ≤ z2.iv * z2.iv := by show _ ≤ z2.dy.iv * z2.dy.iv; rw [D2.out]; exact L2.out
              exact high_of (posTwo 16384) h1 h2))
            clear hS9 hU hZ29 o19 o29 ou oy9 hT9 h9 k10 k10a rz dz vz m0 m1 m2 L1 L2
            go_upto_region 25 with fail
            generalize hAa : wa.alloc _ = Aa at *
            have hV : Aa.cell? ⟨wa.heap.size, 0, none⟩ = some (.bool v.neg) ∧ Aa.cell? ⟨wa.heap.size, 1, none⟩ = some (.slice v.a v.xs.length v.c) ∧ Aa.cell? ⟨wa.heap.size, 2, none⟩ = some (.int .i64 v.e) := by rw [← hAa]; simp
            clear hAa ka
            obtain ⟨s0, s1, s2, t0, t1, t2⟩ := id hSa
            obtain ⟨m0, m1, m2⟩ := id hUa
            obtain ⟨n0, n1, n2⟩ := id hV
            by_cases hc1 : (mulX z1 z1).2 = 0
            · have hz1 : ((mulX z1 z1).2 != 0) = false := by rw [bne, beq_iff_eq.2 hc1]; rfl
              have hz1b : ((mulX z1 z1).2 == 0) = true := beq_iff_eq.2 hc1
              have g1 : decide (cmpZ u.iv y.iv ≤ (0 : Int)) = true := decide_eq_true (cmp_le (M1.out hc1))
              by_cases hc2 : (mulX z2 z2).2 = 0
              · have hz2 : ((mulX z2 z2).2 != 0) = false := by rw [bne, beq_iff_eq.2 hc2]; rfl
                have hz2b : ((mulX z2 z2).2 == 0) = true := beq_iff_eq.2 hc2
                have g2 : decide (cmpZ y.iv v.iv ≤ (0 : Int)) = true := decide_eq_true (cmp_le (M2.out hc2))
                clear hc1 hc2
                go_wp2_with fail
                go_fit (Cmp_raw u y _ oua.out.1 oya.out.1 oua.out.2 oya.out.2)
                rintro e wb ⟨rfl, k11⟩
                have hSb := keepRR k11 hSa
                have hVb := keep3 k11 hV
                clear s0 s1 s2 t0 t1 t2 m0 m1 m2 n0 n1 n2
                obtain ⟨s0, s1, s2, t0, t1, t2⟩ := id hSb
                obtain ⟨n0, n1, n2⟩ := id hVb
                go_wp2_with fail
                go_fit (Cmp_raw y v _ (oya.out.1.kp k11) (ov.out.1.kp k11) oya.out.2 ov.out.2)
                rintro e wd ⟨rfl, k12⟩
                go_wp2_with fail
                go_ret
                exact ⟨rfl, (ha.trans k11).trans k12⟩
              · have hz2 : ((mulX z2 z2).2 != 0) = true := by rw [bne, beq_eq_false_iff_ne.2 hc2]; rfl
                have hz2b : ((mulX z2 z2).2 == 0) = false := beq_eq_false_iff_ne.2 hc2
                clear hc1 hc2
                go_wp2_with fail
                go_fit (Cmp_raw u y _ oua.out.1 oya.out.1 oua.out.2 oya.out.2)
                rintro e wb ⟨rfl, k11⟩
                go_wp2_with fail
                go_ret
                exact ⟨rfl, ha.trans k11⟩
            · have hz1 : ((mulX z1 z1).2 != 0) = true := by rw [bne, beq_eq_false_iff_ne.2 hc1]; rfl
              have hz1b : ((mulX z1 z1).2 == 0) = false := beq_eq_false_iff_ne.2 hc1
              by_cases hc2 : (mulX z2 z2).2 = 0
              · have hz2 : ((mulX z2 z2).2 != 0) = false := by rw [bne, beq_iff_eq.2 hc2]; rfl
                have hz2b : ((mulX z2 z2).2 == 0) = true := beq_iff_eq.2 hc2
                have g2 : decide (cmpZ y.iv v.iv ≤ (0 : Int)) = true := decide_eq_true (cmp_le (M2.out hc2))
                clear hc1 hc2
                go_wp2_with fail
                go_fit (Cmp_raw y v _ oya.out.1 ov.out.1 oya.out.2 ov.out.2)
                rintro e wd ⟨rfl, k12⟩
                go_wp2_with fail
                go_ret
                exact ⟨rfl, ha.trans k12⟩
              · have hz2 : ((mulX z2 z2).2 != 0) = true := by rw [bne, beq_eq_false_iff_ne.2 hc2]; rfl
                have hz2b : ((mulX z2 z2).2 == 0) = false := beq_eq_false_iff_ne.2 hc2
                clear hc1 hc2
                go_wp2_with fail
                go_ret
                exact ⟨rfl, ha⟩
          ·
            have hz : (sqE y p == 0) = false := beq_eq_false_iff_ne.2 hE
            have hz2 : (sqE y p != 0) = true := by rw [bne, hz]; rfl
            have HE := Lib.hid hE
            obtain ⟨s0, s1, s2, t0, t1, t2⟩ := id hS8
            clear hE HS
            go_wp2_with fail
            refine (Valid_raw y _ hy8).mono ?_
            rintro e w9 ⟨rfl, k9⟩
            cases hv : y.vl with
            | false =>
              clear hv
              go_wp2_with fail
              go_ret
              exact ⟨rfl, h8.trans k9⟩
            | true =>
              have hneg : y.neg = true := by
                cases hn : y.neg with
                | true => rfl
                | false => exact absurd (sqE_zero.2 ⟨hv, hn, hp0, hp1⟩) HE.out
              have hm : y.dy.m ≠ 0 := by
                intro h
                rcases rdok_dy (show y.ok A8 from ⟨hy8, hv⟩) with h1 | h1
                · have := h1.2.1
                  rw [show y.dy.neg = y.neg from rfl, hneg] at this; cases this
                · have := h1.1; omega
              have g1 : decide (sgn y.dy < (0 : Int)) = true := decide_eq_true (by
                unfold sgn
                rw [if_neg hm, show y.dy.neg = y.neg from rfl, hneg]; decide)
              have oy := Lib.hid (show y.ok w9 from ⟨hy8.kp k9, hv⟩)
              have hS9 := keepRR k9 hS8
              clear hm hneg hv s0 s1 s2 t0 t1 t2
              obtain ⟨s0, s1, s2, t0, t1, t2⟩ := id hS9
              go_wp2_with fail
              refine (Sign_rk y _ oy.out).mono ?_
              rintro e wa ⟨rfl, k10⟩
              go_wp2_with fail
              go_ret
              exact ⟨rfl, (h8.trans k9).trans k10⟩
end Go.Proofs.YtndbnfeapdkoaaaDoor
