/-
  Walks: the law MatrixPowers.
-/
import Derived.Deep.RegionHeld3
import Derived.Test.YtdidocdpjiiedaaGreatDoorMLaw7N
import Derived.Test.YtdidocdpjiiedaaGreatDoorMR7P
import Derived.Test.YtdidocdpjiiedaaGreatDoorMScM
namespace Go.Proofs.YtdidocdpjiiedaaGreatDoor
open Go.RowKit

set_option maxRecDepth 100000 in
set_option maxHeartbeats 8000000 in
theorem Powers_ok (a : Option Addr) (m : List (List RI)) (x : RI) (c : Nat) (n p : Int) (w : World) (hm : RowM w a m) (hx : x.rd w) (hl : m.length ≤ 1100000) (hT : Tab w) :
    Calls Tryz.prog 10 #[.slice a m.length c, .agg #[.bool x.lo.neg, .slice x.lo.a x.lo.xs.length x.lo.c, .int .i64 x.lo.e, .bool x.hi.neg, .slice x.hi.a x.hi.xs.length x.hi.c, .int .i64 x.hi.e, .bool x.all], .int .i64 n, .int .i64 p] w fun e w' => e = .returned (.bool true) ∧ Kp w w' := by
  have k0 := Lib.hid ((Kp.refl w).alloc (.cells #[.bool x.lo.neg, .slice x.lo.a x.lo.xs.length x.lo.c, .int .i64 x.lo.e, .bool x.hi.neg, .slice x.hi.a x.hi.xs.length x.hi.c, .int .i64 x.hi.e, .bool x.all] 43))
  have HM := Lib.hid hm
  have HX := Lib.hid hx
  have HTb := Lib.hid hT
  clear hm hx hT
  go_enter Tryz.func10, Tryz.ntmps10
  go_wp2_with fail
  generalize hW : w.alloc _ = W at *
  have hS : W.cell? ⟨w.heap.size, 0, none⟩ = some (.bool x.lo.neg) ∧ W.cell? ⟨w.heap.size, 1, none⟩ = some (.slice x.lo.a x.lo.xs.length x.lo.c) ∧ W.cell? ⟨w.heap.size, 2, none⟩ = some (.int .i64 x.lo.e) ∧ W.cell? ⟨w.heap.size, 3, none⟩ = some (.bool x.hi.neg) ∧ W.cell? ⟨w.heap.size, 4, none⟩ = some (.slice x.hi.a x.hi.xs.length x.hi.c) ∧ W.cell? ⟨w.heap.size, 5, none⟩ = some (.int .i64 x.hi.e) ∧ W.cell? ⟨w.heap.size, 6, none⟩ = some (.bool x.all) := by rw [← hW]; simp
  clear hW
  go_fit (awake7_any _ (HTb.out.kp k0.out))
  rintro e w1 ⟨rfl, k1⟩
  have hk1 := k0.out.trans k1
  have HT := Lib.hid (rowT_one (c := c) (HM.out.kp hk1) hl 22)
  have hA := hk1.alloc (.cells #[.slice a m.length c] 22)
  have hS1 := keep7 (k1.alloc (.cells #[.slice a m.length c] 22)) hS
  clear hS k1 hk1
  go_wp2_with fail
  go_fit (great7_any [m] _ 1 _ HT.out (by simp))
  rintro e w2 ⟨rfl, k2⟩
  have hk2 := hA.trans k2
  have hS2 := keep7 k2 hS1
  clear HT hA k2 hS1
  cases hg : [m].any greatM with
  | true =>
    clear hg hS2
    go_wp2_with fail
    go_ret
    exact ⟨rfl, hk2⟩
  | false =>
    clear hg
    obtain ⟨s0, s1, s2, s3, s4, s5, s6⟩ := id hS2
    go_wp2_with fail
    go_fit (wide7_any x _)
    rintro e w3 ⟨rfl, k3⟩
    have hk3 := hk2.trans k3
    have hS3 := keep7 k3 hS2
    clear hk2 k3 hS2 s0 s1 s2 s3 s4 s5 s6
    cases hw : wideR x with
    | true =>
      clear hw hS3
      go_wp2_with fail
      go_ret
      exact ⟨rfl, hk3⟩
    | false =>
      clear hw
      go_wp2_with fail
      go_fit (fine7_any p _)
      rintro e w4 ⟨rfl, rfl⟩
      cases hf : fineP p with
      | false =>
        clear hf hS3
        go_wp2_with fail
        go_ret
        exact ⟨rfl, hk3⟩
      | true =>
        clear hf
        by_cases h46 : 4 < m.length ∧ m.length ≤ 6
        · have g1 : (4 : Int) < (m.length : Int) := by omega
          have g2 : (m.length : Int) ≤ 6 := by omega
          clear h46 hS3
          go_wp2_with fail
          go_ret
          exact ⟨rfl, hk3⟩
        · by_cases h616 : 6 < n ∧ n ≤ 16
          · have g3 : 6 < n := h616.1
            have g4 : n ≤ 16 := h616.2
            clear h616 hS3
            by_cases g1 : (4 : Int) < (m.length : Int)
            · have g2 : ¬ (m.length : Int) ≤ 6 := by omega
              clear h46
              go_wp2_with fail
              go_ret
              exact ⟨rfl, hk3⟩
            · clear h46
              go_wp2_with fail
              go_ret
              exact ⟨rfl, hk3⟩
          · obtain ⟨D, hD⟩ : ∃ D, D = powC m n p := ⟨_, rfl⟩
            have H1 := fun (W : World) (k : Kp w3 W) => mpow_any a m c n p W ((HM.out.kp hk3).kp k) hl ((HTb.out.kp hk3).kp k)
            have H2 := fun (W : World) (k : Kp w3 W) => r7pow_any a m c n p W ((HM.out.kp hk3).kp k) hl ((HTb.out.kp hk3).kp k)
            simp only [← hD] at H1 H2
            have H1 := Lib.hid H1
            have H2 := Lib.hid H2
            have HS3 := Lib.hid hS3
            have HK3 := Lib.hid hk3
            clear hD hS3 hk3
            by_cases g1 : (4 : Int) < (m.length : Int)
            · have g2 : ¬ (m.length : Int) ≤ 6 := by omega
              clear h46
              by_cases g3 : 6 < n
              · have g4 : ¬ n ≤ 16 := fun h => h616 ⟨g3, h⟩
                clear h616
                go_wp2_with fail
                go_fit (H1.out _ (Kp.refl _))
                rintro e w5 ⟨a1, z1, c1, rfl, r1, p1, o1, l1, k1⟩
                have R1 := Lib.hid (And.intro r1 (And.intro p1 o1))
                have K1 := Lib.hid k1
                clear r1 p1 o1 k1 H1
                go_wp2_with fail
                go_fit (H2.out _ K1.out)
                rintro e w6 ⟨a2, z2, c2, rfl, r2, p2, o2, l2, k2⟩
                have S1 := Lib.hid (sameM_pl R1.out.1 r2 R1.out.2.2 o2 (R1.out.2.1.trans p2.symm))
                have HC := fun (W : World) (k : Kp w6 W) => same7mat_any z1 z2 a1 a2 c1 c2 W ((R1.out.1.kp k2).kp k) (r2.kp k) l1
                simp only [S1.out] at HC
                have HC1 := Lib.hid HC
                have K2 := Lib.hid (K1.out.trans k2)
                clear r2 p2 o2 k2 H2 l1 l2 HC S1
                go_upto_region 7 with fail
                have kd := (Kp.refl w6).drew
                have HKD := Lib.hid ((HK3.out.trans K2.out).trans kd)
                have HD := Lib.hid kd
                have hSd := keep7 (K2.out.trans kd) HS3.out
                clear kd
                go_region_held3 (fun w' => w'.cell? ⟨w.heap.size, 0, none⟩ = some (.bool x.lo.neg) ∧ w'.cell? ⟨w.heap.size, 1, none⟩ = some (.slice x.lo.a x.lo.xs.length x.lo.c) ∧ w'.cell? ⟨w.heap.size, 2, none⟩ = some (.int .i64 x.lo.e) ∧ w'.cell? ⟨w.heap.size, 3, none⟩ = some (.bool x.hi.neg) ∧ w'.cell? ⟨w.heap.size, 4, none⟩ = some (.slice x.hi.a x.hi.xs.length x.hi.c) ∧ w'.cell? ⟨w.heap.size, 5, none⟩ = some (.int .i64 x.hi.e) ∧ w'.cell? ⟨w.heap.size, 6, none⟩ = some (.bool x.all)) (first | with_reducible assumption | with_reducible exact keep7 (by assumption) (by assumption) | fail)
                  (first
                    | (go_at_call 19; (with_reducible refine (HC1.out _ HD.out).mono ?_); rintro e w7 ⟨rfl, k7⟩
                       have HK7 := Lib.hid (HKD.out.trans k7))
                    | (go_at_call 49; (with_reducible refine (mscale_any a m x c p _ (HM.out.kp HK7.out) (HX.out.kp HK7.out) hl (HTb.out.kp HK7.out)).mono ?_); rintro e w8 ⟨a3, z3, c3, rfl, r3, p3, o3, l3, k8⟩
                       have R3 := Lib.hid (And.intro r3 (And.intro p3 (And.intro o3 l3)))
                       have HK8 := Lib.hid (HK7.out.trans k8)
                       clear r3 p3 o3 l3)
                    | (go_at_call 50; (with_reducible refine (r7scale_any a m x c p _ (HM.out.kp HK8.out) (HX.out.kp HK8.out) hl).mono ?_); rintro e w9 ⟨a4, z4, c4, rfl, r4, p4, o4, l4, k9⟩
                       have S2 := Lib.hid (sameM_pl R3.out.1 r4 R3.out.2.2.1 o4 (R3.out.2.1.trans p4.symm))
                       have HS2 := Lib.hid (same7mat_any z3 z4 a3 a4 c3 c4 w9 (R3.out.1.kp k9) r4 R3.out.2.2.2)
                       have HK9 := Lib.hid (HK8.out.trans k9)
                       clear r4 p4 o4 l4)
                    | (go_at_call 19; (with_reducible refine HS2.out.mono ?_); rw [S2.out]; rintro e w10 ⟨rfl, k10⟩
                       have HK10 := Lib.hid (HK9.out.trans k10))
                    | fail)
                all_goals
                  go_wp2_with fail
                  go_ret
                  exact ⟨rfl, HK10.out⟩
              · clear h616
                go_wp2_with fail
                go_fit (H1.out _ (Kp.refl _))
                rintro e w5 ⟨a1, z1, c1, rfl, r1, p1, o1, l1, k1⟩
                have R1 := Lib.hid (And.intro r1 (And.intro p1 o1))
                have K1 := Lib.hid k1
                clear r1 p1 o1 k1 H1
                go_wp2_with fail
                go_fit (H2.out _ K1.out)
                rintro e w6 ⟨a2, z2, c2, rfl, r2, p2, o2, l2, k2⟩
                have S1 := Lib.hid (sameM_pl R1.out.1 r2 R1.out.2.2 o2 (R1.out.2.1.trans p2.symm))
                have HC := fun (W : World) (k : Kp w6 W) => same7mat_any z1 z2 a1 a2 c1 c2 W ((R1.out.1.kp k2).kp k) (r2.kp k) l1
                simp only [S1.out] at HC
                have HC1 := Lib.hid HC
                have K2 := Lib.hid (K1.out.trans k2)
                clear r2 p2 o2 k2 H2 l1 l2 HC S1
                go_upto_region 7 with fail
                have kd := (Kp.refl w6).drew
                have HKD := Lib.hid ((HK3.out.trans K2.out).trans kd)
                have HD := Lib.hid kd
                have hSd := keep7 (K2.out.trans kd) HS3.out
                clear kd
                go_region_held3 (fun w' => w'.cell? ⟨w.heap.size, 0, none⟩ = some (.bool x.lo.neg) ∧ w'.cell? ⟨w.heap.size, 1, none⟩ = some (.slice x.lo.a x.lo.xs.length x.lo.c) ∧ w'.cell? ⟨w.heap.size, 2, none⟩ = some (.int .i64 x.lo.e) ∧ w'.cell? ⟨w.heap.size, 3, none⟩ = some (.bool x.hi.neg) ∧ w'.cell? ⟨w.heap.size, 4, none⟩ = some (.slice x.hi.a x.hi.xs.length x.hi.c) ∧ w'.cell? ⟨w.heap.size, 5, none⟩ = some (.int .i64 x.hi.e) ∧ w'.cell? ⟨w.heap.size, 6, none⟩ = some (.bool x.all)) (first | with_reducible assumption | with_reducible exact keep7 (by assumption) (by assumption) | fail)
                  (first
                    | (go_at_call 19; (with_reducible refine (HC1.out _ HD.out).mono ?_); rintro e w7 ⟨rfl, k7⟩
                       have HK7 := Lib.hid (HKD.out.trans k7))
                    | (go_at_call 49; (with_reducible refine (mscale_any a m x c p _ (HM.out.kp HK7.out) (HX.out.kp HK7.out) hl (HTb.out.kp HK7.out)).mono ?_); rintro e w8 ⟨a3, z3, c3, rfl, r3, p3, o3, l3, k8⟩
                       have R3 := Lib.hid (And.intro r3 (And.intro p3 (And.intro o3 l3)))
                       have HK8 := Lib.hid (HK7.out.trans k8)
                       clear r3 p3 o3 l3)
                    | (go_at_call 50; (with_reducible refine (r7scale_any a m x c p _ (HM.out.kp HK8.out) (HX.out.kp HK8.out) hl).mono ?_); rintro e w9 ⟨a4, z4, c4, rfl, r4, p4, o4, l4, k9⟩
                       have S2 := Lib.hid (sameM_pl R3.out.1 r4 R3.out.2.2.1 o4 (R3.out.2.1.trans p4.symm))
                       have HS2 := Lib.hid (same7mat_any z3 z4 a3 a4 c3 c4 w9 (R3.out.1.kp k9) r4 R3.out.2.2.2)
                       have HK9 := Lib.hid (HK8.out.trans k9)
                       clear r4 p4 o4 l4)
                    | (go_at_call 19; (with_reducible refine HS2.out.mono ?_); rw [S2.out]; rintro e w10 ⟨rfl, k10⟩
                       have HK10 := Lib.hid (HK9.out.trans k10))
                    | fail)
                all_goals
                  go_wp2_with fail
                  go_ret
                  exact ⟨rfl, HK10.out⟩
            · clear h46
              by_cases g3 : 6 < n
              · have g4 : ¬ n ≤ 16 := fun h => h616 ⟨g3, h⟩
                clear h616
                go_wp2_with fail
                go_fit (H1.out _ (Kp.refl _))
                rintro e w5 ⟨a1, z1, c1, rfl, r1, p1, o1, l1, k1⟩
                have R1 := Lib.hid (And.intro r1 (And.intro p1 o1))
                have K1 := Lib.hid k1
                clear r1 p1 o1 k1 H1
                go_wp2_with fail
                go_fit (H2.out _ K1.out)
                rintro e w6 ⟨a2, z2, c2, rfl, r2, p2, o2, l2, k2⟩
                have S1 := Lib.hid (sameM_pl R1.out.1 r2 R1.out.2.2 o2 (R1.out.2.1.trans p2.symm))
                have HC := fun (W : World) (k : Kp w6 W) => same7mat_any z1 z2 a1 a2 c1 c2 W ((R1.out.1.kp k2).kp k) (r2.kp k) l1
                simp only [S1.out] at HC
                have HC1 := Lib.hid HC
                have K2 := Lib.hid (K1.out.trans k2)
                clear r2 p2 o2 k2 H2 l1 l2 HC S1
                go_upto_region 7 with fail
                have kd := (Kp.refl w6).drew
                have HKD := Lib.hid ((HK3.out.trans K2.out).trans kd)
                have HD := Lib.hid kd
                have hSd := keep7 (K2.out.trans kd) HS3.out
                clear kd
                go_region_held3 (fun w' => w'.cell? ⟨w.heap.size, 0, none⟩ = some (.bool x.lo.neg) ∧ w'.cell? ⟨w.heap.size, 1, none⟩ = some (.slice x.lo.a x.lo.xs.length x.lo.c) ∧ w'.cell? ⟨w.heap.size, 2, none⟩ = some (.int .i64 x.lo.e) ∧ w'.cell? ⟨w.heap.size, 3, none⟩ = some (.bool x.hi.neg) ∧ w'.cell? ⟨w.heap.size, 4, none⟩ = some (.slice x.hi.a x.hi.xs.length x.hi.c) ∧ w'.cell? ⟨w.heap.size, 5, none⟩ = some (.int .i64 x.hi.e) ∧ w'.cell? ⟨w.heap.size, 6, none⟩ = some (.bool x.all)) (first | with_reducible assumption | with_reducible exact keep7 (by assumption) (by assumption) | fail)
                  (first
                    | (go_at_call 19; (with_reducible refine (HC1.out _ HD.out).mono ?_); rintro e w7 ⟨rfl, k7⟩
                       have HK7 := Lib.hid (HKD.out.trans k7))
                    | (go_at_call 49; (with_reducible refine (mscale_any a m x c p _ (HM.out.kp HK7.out) (HX.out.kp HK7.out) hl (HTb.out.kp HK7.out)).mono ?_); rintro e w8 ⟨a3, z3, c3, rfl, r3, p3, o3, l3, k8⟩
                       have R3 := Lib.hid (And.intro r3 (And.intro p3 (And.intro o3 l3)))
                       have HK8 := Lib.hid (HK7.out.trans k8)
                       clear r3 p3 o3 l3)
                    | (go_at_call 50; (with_reducible refine (r7scale_any a m x c p _ (HM.out.kp HK8.out) (HX.out.kp HK8.out) hl).mono ?_); rintro e w9 ⟨a4, z4, c4, rfl, r4, p4, o4, l4, k9⟩
                       have S2 := Lib.hid (sameM_pl R3.out.1 r4 R3.out.2.2.1 o4 (R3.out.2.1.trans p4.symm))
                       have HS2 := Lib.hid (same7mat_any z3 z4 a3 a4 c3 c4 w9 (R3.out.1.kp k9) r4 R3.out.2.2.2)
                       have HK9 := Lib.hid (HK8.out.trans k9)
                       clear r4 p4 o4 l4)
                    | (go_at_call 19; (with_reducible refine HS2.out.mono ?_); rw [S2.out]; rintro e w10 ⟨rfl, k10⟩
                       have HK10 := Lib.hid (HK9.out.trans k10))
                    | fail)
                all_goals
                  go_wp2_with fail
                  go_ret
                  exact ⟨rfl, HK10.out⟩
              · clear h616
                go_wp2_with fail
                go_fit (H1.out _ (Kp.refl _))
                rintro e w5 ⟨a1, z1, c1, rfl, r1, p1, o1, l1, k1⟩
                have R1 := Lib.hid (And.intro r1 (And.intro p1 o1))
                have K1 := Lib.hid k1
                clear r1 p1 o1 k1 H1
                go_wp2_with fail
                go_fit (H2.out _ K1.out)
                rintro e w6 ⟨a2, z2, c2, rfl, r2, p2, o2, l2, k2⟩
                have S1 := Lib.hid (sameM_pl R1.out.1 r2 R1.out.2.2 o2 (R1.out.2.1.trans p2.symm))
                have HC := fun (W : World) (k : Kp w6 W) => same7mat_any z1 z2 a1 a2 c1 c2 W ((R1.out.1.kp k2).kp k) (r2.kp k) l1
                simp only [S1.out] at HC
                have HC1 := Lib.hid HC
                have K2 := Lib.hid (K1.out.trans k2)
                clear r2 p2 o2 k2 H2 l1 l2 HC S1
                go_upto_region 7 with fail
                have kd := (Kp.refl w6).drew
                have HKD := Lib.hid ((HK3.out.trans K2.out).trans kd)
                have HD := Lib.hid kd
                have hSd := keep7 (K2.out.trans kd) HS3.out
                clear kd
                go_region_held3 (fun w' => w'.cell? ⟨w.heap.size, 0, none⟩ = some (.bool x.lo.neg) ∧ w'.cell? ⟨w.heap.size, 1, none⟩ = some (.slice x.lo.a x.lo.xs.length x.lo.c) ∧ w'.cell? ⟨w.heap.size, 2, none⟩ = some (.int .i64 x.lo.e) ∧ w'.cell? ⟨w.heap.size, 3, none⟩ = some (.bool x.hi.neg) ∧ w'.cell? ⟨w.heap.size, 4, none⟩ = some (.slice x.hi.a x.hi.xs.length x.hi.c) ∧ w'.cell? ⟨w.heap.size, 5, none⟩ = some (.int .i64 x.hi.e) ∧ w'.cell? ⟨w.heap.size, 6, none⟩ = some (.bool x.all)) (first | with_reducible assumption | with_reducible exact keep7 (by assumption) (by assumption) | fail)
                  (first
                    | (go_at_call 19; (with_reducible refine (HC1.out _ HD.out).mono ?_); rintro e w7 ⟨rfl, k7⟩
                       have HK7 := Lib.hid (HKD.out.trans k7))
                    | (go_at_call 49; (with_reducible refine (mscale_any a m x c p _ (HM.out.kp HK7.out) (HX.out.kp HK7.out) hl (HTb.out.kp HK7.out)).mono ?_); rintro e w8 ⟨a3, z3, c3, rfl, r3, p3, o3, l3, k8⟩
                       have R3 := Lib.hid (And.intro r3 (And.intro p3 (And.intro o3 l3)))
                       have HK8 := Lib.hid (HK7.out.trans k8)
                       clear r3 p3 o3 l3)
                    | (go_at_call 50; (with_reducible refine (r7scale_any a m x c p _ (HM.out.kp HK8.out) (HX.out.kp HK8.out) hl).mono ?_); rintro e w9 ⟨a4, z4, c4, rfl, r4, p4, o4, l4, k9⟩
                       have S2 := Lib.hid (sameM_pl R3.out.1 r4 R3.out.2.2.1 o4 (R3.out.2.1.trans p4.symm))
                       have HS2 := Lib.hid (same7mat_any z3 z4 a3 a4 c3 c4 w9 (R3.out.1.kp k9) r4 R3.out.2.2.2)
                       have HK9 := Lib.hid (HK8.out.trans k9)
                       clear r4 p4 o4 l4)
                    | (go_at_call 19; (with_reducible refine HS2.out.mono ?_); rw [S2.out]; rintro e w10 ⟨rfl, k10⟩
                       have HK10 := Lib.hid (HK9.out.trans k10))
                    | fail)
                all_goals
                  go_wp2_with fail
                  go_ret
                  exact ⟨rfl, HK10.out⟩
end Go.Proofs.YtdidocdpjiiedaaGreatDoor
