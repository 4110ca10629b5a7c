/-
  Walks: the law RoundMonotone.
-/
import Derived.Test.YtkkiinbgjjjcoaaDoorMLaw3P
import Derived.Deep.Cut
namespace Go.Proofs.YtkkiinbgjjjcoaaDoor
open Go.RowKit

/-- does the law stop at once? -/
def outM (x y : RD) : Bool := [x, y].any lng2 || (!x.vl || !y.vl)
theorem keepQ {w w' : World} (k : Kp w w') {g : Nat} {x : RD} (hS : w.cell? ⟨g, 0, none⟩ = some (.bool x.neg) ∧ w.cell? ⟨g, 1, none⟩ = some (.slice x.a x.xs.length x.c) ∧ w.cell? ⟨g, 2, none⟩ = some (.int .i64 x.e)) : w'.cell? ⟨g, 0, none⟩ = some (.bool x.neg) ∧ w'.cell? ⟨g, 1, none⟩ = some (.slice x.a x.xs.length x.c) ∧ w'.cell? ⟨g, 2, none⟩ = some (.int .i64 x.e) := keep3 k hS
set_option maxRecDepth 100000 in
set_option maxHeartbeats 32000000 in
theorem Monotone_ok (x y : RD) (p : Int) (m : Nat) (w : World) (hx : x.rd w) (hy : y.rd w) (hm : m < 256) (hT : Tab w) :
    Calls Tryd.prog 3 #[.agg #[.bool x.neg, .slice x.a x.xs.length x.c, .int .i64 x.e], .agg #[.bool y.neg, .slice y.a y.xs.length y.c, .int .i64 y.e], .int .i64 p, .int .u8 (m : Nat)] w fun e w' => e = .returned (.bool true) ∧ Kp w w' := by
  go_enter Tryd.func3, Tryd.ntmps3
  go_upto_region 1 with fail
  generalize hW : ((w.alloc _).alloc _) = W at *
  have hk : Kp w W := hW ▸ ((Kp.refl w).alloc _).alloc _
  have hS : W.cell? ⟨w.heap.size, 0, none⟩ = some (.bool x.neg) ∧ W.cell? ⟨w.heap.size, 1, none⟩ = some (.slice x.a x.xs.length x.c) ∧ W.cell? ⟨w.heap.size, 2, none⟩ = some (.int .i64 x.e) ∧ W.cell? ⟨w.heap.size + 1, 0, none⟩ = some (.bool y.neg) ∧ W.cell? ⟨w.heap.size + 1, 1, none⟩ = some (.slice y.a y.xs.length y.c) ∧ W.cell? ⟨w.heap.size + 1, 2, none⟩ = some (.int .i64 y.e) := by rw [← hW]; simp
  have hBX : Box3 W w.heap.size (.bool x.neg) (.slice x.a x.xs.length x.c) (.int .i64 x.e) := hW ▸ (Box3.new w _ _ _ _).kp ((Kp.refl _).alloc _)
  have hBY : Box3 W (w.heap.size + 1) (.bool y.neg) (.slice y.a y.xs.length y.c) (.int .i64 y.e) := hW ▸ Box3.new2 _ _ _ _ _ _
  clear hW
  go_cut [18] from 9 (fun s wx => s = .bool false ∧ Kp W wx)
  case first =>
    go_wp2_with fail
    refine (awake3_ok _ (hT.kp hk)).mono ?_
    rintro e w1 ⟨rfl, k1⟩
    go_wp2_with fail
    go_meet
    case rel => exact ⟨rfl, k1⟩
  case rest =>
    obtain ⟨rfl, k1⟩ := hcut
    have hS1 := keepRR k1 hS
    have hBX1 := hBX.kp k1
    have hBY1 := hBY.kp k1
    have h1 := hk.trans k1
    clear hk k1 hS hBX hBY
    obtain ⟨W1, hW1⟩ : ∃ W1 : World, W1 = wc := ⟨_, rfl⟩
    subst hW1
    go_upto_region 3 with fail
    go_cut [32] from 9 (fun s wx => s = .bool (outM x y) ∧ Kp W1 wx)
    case first =>
      obtain ⟨s0, s1, s2, t0, t1, t2⟩ := hS1
      have hrow := rowD_two W1 x y (hx.kp h1) (hy.kp h1) 24
      have ka := (Kp.refl W1).alloc (.cells #[.bool x.neg, .slice x.a x.xs.length x.c, .int .i64 x.e, .bool y.neg, .slice y.a y.xs.length y.c, .int .i64 y.e] 24)
      go_wp2_with fail
      refine (great_any _ [x, y] 2 _ hrow (by simp)).mono ?_
      rintro e w2 ⟨rfl, k2⟩
      have h2 := ka.trans k2
      have u0 := h2.cell s0
      have u1 := h2.cell s1
      have u2 := h2.cell s2
      clear k2 hrow ka
      cases e0 : [x, y].any lng2 with
      | true =>
        have Hg := Lib.hid (show outM x y = true by unfold outM; rw [e0]; rfl)
        clear e0 s0 s1 s2 t0 t1 t2 u0 u1 u2
        go_wp2_with fail
        go_meet
        case rel => exact ⟨by rw [Hg.out], h2⟩
      | false =>
        go_wp2_with fail
        refine (Valid_raw x _ (hx.kp (h1.trans h2))).mono ?_
        rintro e w3 ⟨rfl, k3⟩
        have h3 := h2.trans k3
        have v0 := h3.cell t0
        have v1 := h3.cell t1
        have v2 := h3.cell t2
        clear s0 s1 s2 t0 t1 t2 u0 u1 u2 k3
        cases e1 : x.vl with
        | false =>
          have Hg := Lib.hid (show outM x y = true by unfold outM; rw [e0, e1]; rfl)
          clear e0 e1 v0 v1 v2
          go_wp2_with fail
          go_meet
          case rel => exact ⟨by rw [Hg.out], h3⟩
        | true =>
          go_wp2_with fail
          refine (Valid_raw y _ (hy.kp (h1.trans h3))).mono ?_
          rintro e w4 ⟨rfl, k4⟩
          have h4 := h3.trans k4
          have Hg := Lib.hid (show outM x y = !y.vl by unfold outM; rw [e0, e1]; rfl)
          clear e0 e1 v0 v1 v2 k4
          go_wp2_with fail
          go_meet
          case rel => exact ⟨by rw [Hg.out], h4⟩
    case rest =>
      obtain ⟨rfl, k2⟩ := hcut
      have hS2 := keepRR k2 hS1
      have hBX2 := hBX1.kp k2
      have hBY2 := hBY1.kp k2
      have h2 := h1.trans k2
      clear h1 k2 hS1 hBX1 hBY1
      obtain ⟨W2, hW2⟩ : ∃ W2 : World, W2 = wc := ⟨_, rfl⟩
      subst hW2
      cases ho : outM x y with
      | true =>
        clear ho hS2 hBX2 hBY2
        go_wp2_with fail
        go_ret
        exact ⟨rfl, h2⟩
      | false =>
        have hv : x.vl = true ∧ y.vl = true := by
          unfold outM at ho
          rw [Bool.or_eq_false_iff, Bool.or_eq_false_iff] at ho
          exact ⟨by simpa using ho.2.1, by simpa using ho.2.2⟩
        have hxo : x.ok W2 := ⟨hx.kp h2, hv.1⟩
        have hyo : y.ok W2 := ⟨hy.kp h2, hv.2⟩
        clear ho hv
        obtain ⟨s0, s1, s2, t0, t1, t2⟩ := hS2
        go_wp2_with fail
        refine (Cmp_raw x y _ hxo.1 hyo.1 hxo.2 hyo.2).mono ?_
        rintro e w3 ⟨rfl, k3⟩
        have hx3 := hxo.kp k3
        have hy3 := hyo.kp k3
        have h3 := h2.trans k3
        have B1 := Lib.hid (hBX2.kp k3)
        have B2 := Lib.hid (hBY2.kp k3)
        clear s0 s1 s2 t0 t1 t2 k3 hBX2 hBY2 hxo hyo h2
        go_upto_if 36 with fail
        go_cut [] from 9 (fun wx => ∃ X Y : RD, (wx.cell? ⟨w.heap.size, 0, none⟩ = some (.bool X.neg) ∧ wx.cell? ⟨w.heap.size, 1, none⟩ = some (.slice X.a X.xs.length X.c) ∧ wx.cell? ⟨w.heap.size, 2, none⟩ = some (.int .i64 X.e) ∧ wx.cell? ⟨w.heap.size + 1, 0, none⟩ = some (.bool Y.neg) ∧ wx.cell? ⟨w.heap.size + 1, 1, none⟩ = some (.slice Y.a Y.xs.length Y.c) ∧ wx.cell? ⟨w.heap.size + 1, 2, none⟩ = some (.int .i64 Y.e)) ∧ X.ok wx ∧ Y.ok wx ∧ X.iv ≤ Y.iv ∧ Kp w wx)
        case first =>
          obtain ⟨q0, q1, q2, f0, f1, f2⟩ := B1.out
          obtain ⟨r0, r1, r2, g0, g1, g2⟩ := B2.out
          by_cases hc : x.iv ≤ y.iv
          · have hcm : ¬ 0 < cmpZ x.iv y.iv := by have := cmp_le hc; omega
            have Hc := Lib.hid hc
            have hE := Lib.hid (And.intro q0 (And.intro q1 (And.intro q2 (And.intro r0 (And.intro r1 r2)))))
            clear hc q0 q1 q2 f0 f1 f2 r0 r1 r2 g0 g1 g2
            go_wp2_with fail
            go_meet
            case rel => exact ⟨x, y, hE.out, hx3, hy3, Hc.out, h3⟩
          · have hcm : 0 < cmpZ x.iv y.iv := cmp_gt (by omega)
            have Hc := Lib.hid hc
            clear hc
            have hst := Lib.hid (stored q0 q1 q2 (fun _ h => by cases h) (fun _ h => by cases h) (fun _ h => by cases h) (.bool y.neg) (.slice y.a y.xs.length y.c) (.int .i64 y.e))
            have hst2 := fun (W : World) z0 z1 z2 => stored (w := W) (g := w.heap.size + 1) (y0 := .bool y.neg) (y1 := .slice y.a y.xs.length y.c) (y2 := .int .i64 y.e) z0 z1 z2 (fun _ h => by cases h) (fun _ h => by cases h) (fun _ h => by cases h) (.bool x.neg) (.slice x.a x.xs.length x.c) (.int .i64 x.e)
            have Hr := Lib.hid (And.intro r0 (And.intro r1 r2))
            have Hst2 := Lib.hid hst2
            clear hst2
            go_wp2_with fail
            go_meet
            case rel =>
              obtain ⟨s0, s1, s2, _, s4, s5, s6, _⟩ := hst.out
              obtain ⟨r0, r1, r2⟩ := Hr.out
              have ne : w.heap.size + 1 ≠ w.heap.size := by omega
              obtain ⟨a0, a1, a2⟩ := set3x ne ⟨r0, r1, r2⟩
              obtain ⟨u0, u1, u2, _, u4, u5, u6, _⟩ := Hst2.out _ a0 a1 a2
              obtain ⟨c0, c1, c2⟩ := set3x (Ne.symm ne) ⟨s0, s1, s2⟩
              exact ⟨y, x, ⟨c0, c1, c2, u0, u1, u2⟩, ⟨⟨u4 _ _ (s4 _ _ hy3.1.1), hy3.1.2⟩, hy3.2⟩, ⟨⟨u4 _ _ (s4 _ _ hx3.1.1), hx3.1.2⟩, hx3.2⟩, by have := Hc.out; omega, u5 _ (s5 _ h3 (by omega)) (by omega)⟩
        case rest =>
          obtain ⟨X, Y, hS3, hX, hY, hXY, h4⟩ := hcut
          obtain ⟨W3, hW3⟩ : ∃ W3 : World, W3 = wc := ⟨_, rfl⟩
          subst hW3
          clear B1 B2 h3 hx3 hy3
          have hSX : W3.cell? ⟨w.heap.size, 0, none⟩ = some (.bool X.neg) ∧ W3.cell? ⟨w.heap.size, 1, none⟩ = some (.slice X.a X.xs.length X.c) ∧ W3.cell? ⟨w.heap.size, 2, none⟩ = some (.int .i64 X.e) := ⟨hS3.1, hS3.2.1, hS3.2.2.1⟩
          have hSY : W3.cell? ⟨w.heap.size + 1, 0, none⟩ = some (.bool Y.neg) ∧ W3.cell? ⟨w.heap.size + 1, 1, none⟩ = some (.slice Y.a Y.xs.length Y.c) ∧ W3.cell? ⟨w.heap.size + 1, 2, none⟩ = some (.int .i64 Y.e) := hS3.2.2.2
          have hT3 := hT.kp h4
          clear hS3
          have HXY := Lib.hid hXY
          clear hXY
          go_wp2_with fail
          refine (Down_rd X p _ hX.1 hT3).mono ?_
          rintro e w5 ⟨z1, rfl, rz1, dz1, vz1, k5⟩
          have ka := (Kp.refl w5).alloc (.cells #[.bool z1.neg, .slice z1.a z1.xs.length z1.c, .int .i64 z1.e] 24)
          have k5a := k5.trans ka
          have oz1 : z1.ok w5 := ⟨rz1, vz1 (rndB_ok X p false)⟩
          have oz1a := oz1.kp ka
          have D1 := Lib.hid dz1
          have hSX5 := keep3 k5a hSX
          have hSY5 := keep3 k5a hSY
          have hX5 := hX.kp k5a
          have hY5 := hY.kp k5a
          have h5 := h4.trans k5a
          have hT5 := hT3.kp k5a
          clear hSX hSY hX hY h4 hT3 k5 k5a rz1 dz1 vz1 oz1
          go_wp2_with fail
          generalize hA5 : w5.alloc _ = A5 at *
          have hZ1 : A5.cell? ⟨w5.heap.size, 0, none⟩ = some (.bool z1.neg) ∧ A5.cell? ⟨w5.heap.size, 1, none⟩ = some (.slice z1.a z1.xs.length z1.c) ∧ A5.cell? ⟨w5.heap.size, 2, none⟩ = some (.int .i64 z1.e) := by rw [← hA5]; simp
          clear hA5 ka
          refine (Down_rd Y p _ hY5.1 hT5).mono ?_
          rintro e w6 ⟨z2, rfl, rz2, dz2, vz2, k6⟩
          have ka := (Kp.refl w6).alloc (.cells #[.bool z2.neg, .slice z2.a z2.xs.length z2.c, .int .i64 z2.e] 24)
          have k6a := k6.trans ka
          have oz2 : z2.ok w6 := ⟨rz2, vz2 (rndB_ok Y p false)⟩
          have oz2b := oz2.kp ka
          have D2 := Lib.hid dz2
          have oz1b := oz1a.kp k6a
          have hSX6 := keep3 k6a hSX5
          have hZ1b := keep3 k6a hZ1
          have hX6 := hX5.kp k6a
          have h6 := h5.trans k6a
          have hT6 := hT5.kp k6a
          have HYX := Lib.hid (And.intro hX5 hY5)
          clear hSX5 hSY5 hX5 hY5 h5 hT5 k6 k6a rz2 dz2 vz2 oz2 hZ1 oz1a
          by_cases hc1 : (rndB X p false).2 = 0
          · have C1 := Lib.hid hc1
            rw [hc1]
            clear hc1
            go_upto_region 9 with fail
            generalize hA6 : w6.alloc _ = A6 at *
            have hZ2 : A6.cell? ⟨w6.heap.size, 0, none⟩ = some (.bool z2.neg) ∧ A6.cell? ⟨w6.heap.size, 1, none⟩ = some (.slice z2.a z2.xs.length z2.c) ∧ A6.cell? ⟨w6.heap.size, 2, none⟩ = some (.int .i64 z2.e) := by rw [← hA6]; simp
            clear hA6 ka
            go_cut [62] from 11 (fun s wx => s = .bool false ∧ Kp A6 wx)
            case first =>
              obtain ⟨a0, a1, a2⟩ := hZ1b
              obtain ⟨b0, b1, b2⟩ := hZ2
              by_cases hc2 : (rndB Y p false).2 = 0
              · have Hle := Lib.hid (show z1.iv ≤ z2.iv by
                  have := law_order HYX.out.1 HYX.out.2 HXY.out C1.out hc2
                  rw [← D1.out, ← D2.out] at this; exact this)
                rw [hc2]
                clear hc2
                go_wp2_with fail
                refine (Cmp_raw z1 z2 _ oz1b.1 oz2b.1 oz1b.2 oz2b.2).mono ?_
                rintro e w7 ⟨rfl, k7⟩
                have hcm : ¬ 0 < cmpZ z1.iv z2.iv := by have := cmp_le Hle.out; omega
                clear a0 a1 a2 b0 b1 b2
                go_wp2_with fail
                go_meet
                case rel => exact ⟨by rw [decide_eq_false (by have := cmp_le Hle.out; omega)], k7⟩
              · have hc3 : ((rndB Y p false).2 == 0) = false := beq_eq_false_iff_ne.2 hc2
                clear hc2 a0 a1 a2 b0 b1 b2
                go_wp2_with fail
                go_meet
                case rel => exact ⟨rfl, .refl _⟩
            case rest =>
              obtain ⟨rfl, k7⟩ := hcut
              obtain ⟨W7, hW7⟩ : ∃ W7 : World, W7 = wc := ⟨_, rfl⟩
              subst hW7
              have hSX7 := keep3 k7 hSX6
              have hZ17 := keep3 k7 hZ1b
              have hX7 := hX6.kp k7
              have oz17 := oz1b.kp k7
              have h7 := h6.trans k7
              have hT7 := hT6.kp k7
              clear hSX6 hZ1b hX6 oz1b h6 hT6 k7 hZ2 oz2b
              go_wp2_with fail
              refine (Neg_ok X _ hX7).mono ?_
              rintro e w8 ⟨n, rfl, rn, dn, vn, k8⟩
              have on : n.ok w8 := ⟨rn, vn (Dy.opp_ok (rdok_dy hX7))⟩
              have HO := Lib.hid (rndB_opp hX7 on dn p)
              go_wp2_with fail
              refine (Up_rd n p _ on.1 (hT7.kp k8)).mono ?_
              rw [HO.out, C1.out]
              rintro e w9 ⟨z3, rfl, rz3, dz3, vz3, k9⟩
              have ka := (Kp.refl w9).alloc (.cells #[.bool z3.neg, .slice z3.a z3.xs.length z3.c, .int .i64 z3.e] 24)
              have k9a := (k8.trans k9).trans ka
              have oz3 : z3.ok w9 := ⟨rz3, vz3 (Dy.opp_ok (rndB_ok X p false))⟩
              have oz3a := oz3.kp ka
              have D3 := Lib.hid dz3
              have hSX9 := keep3 k9a hSX7
              have hZ19 := keep3 k9a hZ17
              have hX9 := hX7.kp k9a
              have oz19 := oz17.kp k9a
              have h9 := h7.trans k9a
              have hT9 := hT7.kp k9a
              clear hSX7 hZ17 hX7 oz17 h7 hT7 k8 k9 k9a rz3 dz3 vz3 oz3 rn dn vn on HO
              go_wp2_with fail
              generalize hA9 : w9.alloc _ = A9 at *
              have hZ3 : A9.cell? ⟨w9.heap.size, 0, none⟩ = some (.bool z3.neg) ∧ A9.cell? ⟨w9.heap.size, 1, none⟩ = some (.slice z3.a z3.xs.length z3.c) ∧ A9.cell? ⟨w9.heap.size, 2, none⟩ = some (.int .i64 z3.e) := by rw [← hA9]; simp
              clear hA9 ka
              have h9d := h9.drew
              have oz3d := oz3a.drew
              have oz1d := oz19.drew
              have hX9d := hX9.drew
              have hT9d := hT9.kp (Kp.refl A9).drew
              have hSX9d := keep3 (Kp.refl A9).drew hSX9
              have hZ19d := keep3 (Kp.refl A9).drew hZ19
              have hSS := keepRR (Kp.refl A9).drew ⟨hZ3.1, hZ3.2.1, hZ3.2.2, hZ19⟩
              clear h9 oz3a oz19 hX9 hT9 hSX9 hZ19 hZ3
              have R1 := Lib.hid oz1d
              have R3 := Lib.hid oz3d.1
              go_region_held3 (fun w' => w'.cell? ⟨w9.heap.size, 0, none⟩ = some (.bool z3.neg) ∧ w'.cell? ⟨w9.heap.size, 1, none⟩ = some (.slice z3.a z3.xs.length z3.c) ∧ w'.cell? ⟨w9.heap.size, 2, none⟩ = some (.int .i64 z3.e) ∧ w'.cell? ⟨w5.heap.size, 0, none⟩ = some (.bool z1.neg) ∧ w'.cell? ⟨w5.heap.size, 1, none⟩ = some (.slice z1.a z1.xs.length z1.c) ∧ w'.cell? ⟨w5.heap.size, 2, none⟩ = some (.int .i64 z1.e)) (first | with_reducible assumption | with_reducible exact keepRR (by assumption) (by assumption))
                (first
                  | (go_at_call 13; refine (Neg_ok z1 _ R1.out).mono ?_; rintro e w10 ⟨n2, rfl, rn2, dn2, vn2, k10⟩)
                  | (go_at_call 14; refine (same_any z3 n2 _ (R3.out.kp k10) rn2).mono ?_; rw [sameR_dy oz3d (show n2.ok w10 from ⟨rn2, vn2 (Dy.opp_ok (rdok_dy oz1d))⟩) (D3.out.trans ((congrArg Dy.opp D1.out).symm.trans dn2.symm))]; rintro e w11 ⟨rfl, k11⟩)
                  | fail)
              have hkk := k10.trans k11
              have hSXe := keep3 hkk hSX9d
              have hZ1e := keep3 hkk hZ19d
              have hXe := hX9d.kp hkk
              have oz1e := oz1d.kp hkk
              have he := h9d.trans hkk
              have hTe := hT9d.kp hkk
              clear hSS hSX9d hZ19d hX9d oz1d h9d hT9d R1 R3 k10 k11 hkk oz3d
              obtain ⟨q, hq⟩ : ∃ q, q = IntKind.i64.wrap (p + (m : Int)) := ⟨_, rfl⟩
              have hpq : p ≤ q := by
                obtain ⟨g1, g2⟩ := rndB_good C1.out
                rw [hq, IntWalk.i64_in _ (by omega)]; omega
              have hqp : q = p + (m : Int) := by
                obtain ⟨g1, g2⟩ := rndB_good C1.out
                rw [hq, IntWalk.i64_in _ (by omega)]
              have hgp : 8 ≤ p ∧ p ≤ 512 := rndB_good C1.out
              have Hpq := Lib.hid hpq
              have Hqp := Lib.hid hqp
              clear hq hpq hqp
              go_wp2_with fail
              have hD := Down_rd X q _ hXe.1 hTe
              rw [Hqp.out] at hD
              refine hD.mono ?_
              clear hD
              rw [← Hqp.out]
              rintro e w12 ⟨z4, rfl, rz4, dz4, vz4, k12⟩
              have ka := (Kp.refl w12).alloc (.cells #[.bool z4.neg, .slice z4.a z4.xs.length z4.c, .int .i64 z4.e] 24)
              have oz4 : z4.ok w12 := ⟨rz4, vz4 (rndB_ok X q false)⟩
              have oz4a := oz4.kp ka
              have ke := k12.trans ka
              by_cases hc4 : (rndB X q false).2 = 0
              · have Hm := Lib.hid (show z1.iv ≤ z4.iv ∧ z4.iv ≤ X.iv by
                  have := law_more hXe Hpq.out C1.out hc4
                  rw [← D1.out, ← dz4] at this; exact this)
                rw [hc4]
                clear hc4 dz4 vz4
                obtain ⟨a0, a1, a2⟩ := keep3 ke hZ1e
                obtain ⟨b0, b1, b2⟩ := keep3 ke hSXe
                have oz1f := oz1e.kp ke
                have hXf := hXe.kp ke
                have hf := he.trans ke
                go_wp2_with fail
                generalize hA12 : w12.alloc _ = A12 at *
                obtain ⟨c0, c1, c2⟩ : A12.cell? ⟨w12.heap.size, 0, none⟩ = some (.bool z4.neg) ∧ A12.cell? ⟨w12.heap.size, 1, none⟩ = some (.slice z4.a z4.xs.length z4.c) ∧ A12.cell? ⟨w12.heap.size, 2, none⟩ = some (.int .i64 z4.e) := by rw [← hA12]; simp
                clear hA12 ka ke k12 hZ1e hSXe oz1e hXe he hTe oz4
                refine (Cmp_raw z1 z4 _ oz1f.1 oz4a.1 oz1f.2 oz4a.2).mono ?_
                rintro e w13 ⟨rfl, k13⟩
                have hcm : cmpZ z1.iv z4.iv ≤ 0 := cmp_le Hm.out.1
                have d0 := k13.cell c0
                have d1 := k13.cell c1
                have d2 := k13.cell c2
                have e0 := k13.cell b0
                have e1 := k13.cell b1
                have e2 := k13.cell b2
                clear a0 a1 a2 b0 b1 b2 c0 c1 c2
                go_wp2_with fail
                refine (Cmp_raw z4 X _ (oz4a.kp k13).1 (hXf.kp k13).1 oz4a.2 hXf.2).mono ?_
                rintro e w14 ⟨rfl, k14⟩
                have hcm2 : cmpZ z4.iv X.iv ≤ 0 := cmp_le Hm.out.2
                clear d0 d1 d2 e0 e1 e2
                go_wp2_with fail
                go_ret
                exact ⟨rfl, (hf.trans k13).trans k14⟩
              · have hc5 : ((rndB X q false).2 == 0) = false := beq_eq_false_iff_ne.2 hc4
                have hc6 : ((rndB X q false).2 != 0) = true := by rw [bne, hc5]; rfl
                have hf := he.trans ke
                clear hc4 hZ1e hSXe oz1e hXe hTe
                go_wp2_with fail
                go_ret
                exact ⟨rfl, hf⟩
          · obtain ⟨E, hE⟩ : ∃ E, E = (rndB X p false).2 := ⟨_, rfl⟩
            have HE := Lib.hid hE
            rw [← hE] at hc1 ⊢
            clear hE
            have hE0 : (E == 0) = false := beq_eq_false_iff_ne.2 hc1
            have hE1 : (E != 0) = true := by rw [bne, hE0]; rfl
            have hEE : (E != E) = false := by simp
            clear hc1 hZ1b oz1b oz2b
            go_wp2_with fail
            generalize w6.alloc _ = A6 at *
            refine (Neg_ok X _ hX6).mono ?_
            rintro e w8 ⟨n, rfl, rn, dn, vn, k8⟩
            have on : n.ok w8 := ⟨rn, vn (Dy.opp_ok (rdok_dy hX6))⟩
            have HO := Lib.hid (rndB_opp hX6 on dn p)
            go_wp2_with fail
            refine (Up_rd n p _ on.1 (hT6.kp k8)).mono ?_
            rw [HO.out]
            show ∀ e w', NumE _ _ (rndB X p false).2 e w' → _
            rw [← HE.out]
            rintro e w9 ⟨z3, rfl, rz3, dz3, vz3, k9⟩
            have ka := (Kp.refl w9).alloc (.cells #[.bool z3.neg, .slice z3.a z3.xs.length z3.c, .int .i64 z3.e] 24)
            have k9a := (k8.trans k9).trans ka
            have hSX9 := keep3 k9a hSX6
            have hX9 := hX6.kp k9a
            have h9 := h6.trans k9a
            have hT9 := hT6.kp k9a
            clear hSX6 hX6 h6 hT6 k8 k9 k9a rz3 dz3 vz3 rn dn vn on HO
            go_wp2_with fail
            generalize w9.alloc _ = A9 at *
            go_quiet (fail)
            have hSXe := keep3 ((Kp.refl A9).drewN nq) hSX9
            have hXe := hX9.kp ((Kp.refl A9).drewN nq)
            have he := h9.drewN nq
            have hTe := hT9.kp ((Kp.refl A9).drewN nq)
            clear hSX9 hX9 h9 hT9 ka
            go_wp2_with fail
            refine (Down_rd X _ _ hXe.1 hTe).mono ?_
            rintro e w12 ⟨z4, rfl, rz4, dz4, vz4, k12⟩
            have hf := (he.trans k12).alloc (.cells #[.bool z4.neg, .slice z4.a z4.xs.length z4.c, .int .i64 z4.e] 24)
            clear hSXe hXe hTe dz4 vz4 rz4 k12 he
            go_wp2_with fail
            go_ret
            exact ⟨rfl, hf⟩
end Go.Proofs.YtkkiinbgjjjcoaaDoor
