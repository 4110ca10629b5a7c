/-
  Walks: the law's awake.
-/
import Derived.Deep.CutRange
import Derived.Deep.RegionHeld3
import Derived.Test.YtdidocdpjiiedaaGreatDoorMIncP
import Derived.Test.YtdidocdpjiiedaaGreatDoorMNrmM
namespace Go.Proofs.YtdidocdpjiiedaaGreatDoor
open Go.RowKit

set_option maxRecDepth 100000 in
set_option maxHeartbeats 16000000 in
theorem awake7_any (w : World) (hT : Tab w) :
    Calls Tryz.prog 11 #[] w fun e w' => e = .returned (.bool true) ∧ Kp w w' := by
  go_enter Tryz.func11, Tryz.ntmps11
  go_upto_region 1 with fail
  go_cut [1] from 7 to 14 (fun s wx => ∃ (b : Nat) (x1 x2 : RI), s = .slice (some ⟨b, 0, none⟩) 1 1 ∧ RowM wx (some ⟨b, 0, none⟩) [[x1, x2]] ∧ x1.pl = pnI 1 1 ∧ x2.pl = pnI 2 2 ∧ vlM [[x1, x2]] = true ∧ Kp w wx)
  case first =>
    have HK := Kp.refl w
    go_wp2_with fail
    go_fit (num7_any (1) _ (by decide) (by decide))
    rintro e v1 ⟨y1, rfl, oy1, dy1, j1⟩
    replace HK := HK.trans j1
    go_wp2_with fail
    go_fit (num7_any (1) _ (by decide) (by decide))
    rintro e v2 ⟨y2, rfl, oy2, dy2, j2⟩
    replace oy1 := oy1.kp j2
    replace HK := HK.trans j2
    go_wp2_with fail
    go_fit (num7_any (2) _ (by decide) (by decide))
    rintro e v3 ⟨y3, rfl, oy3, dy3, j3⟩
    replace oy1 := oy1.kp j3
    replace oy2 := oy2.kp j3
    replace HK := HK.trans j3
    go_wp2_with fail
    go_fit (num7_any (2) _ (by decide) (by decide))
    rintro e v4 ⟨y4, rfl, oy4, dy4, j4⟩
    replace oy1 := oy1.kp j4
    replace oy2 := oy2.kp j4
    replace oy3 := oy3.kp j4
    replace HK := HK.trans j4
    go_wp2_with fail
    go_meet
    case rel =>
      have hk4 := (Kp.refl v4).alloc (.cells #[.bool (RI.mk y1 y2 false).lo.neg, .slice (RI.mk y1 y2 false).lo.a (RI.mk y1 y2 false).lo.xs.length (RI.mk y1 y2 false).lo.c, .int .i64 (RI.mk y1 y2 false).lo.e, .bool (RI.mk y1 y2 false).hi.neg, .slice (RI.mk y1 y2 false).hi.a (RI.mk y1 y2 false).hi.xs.length (RI.mk y1 y2 false).hi.c, .int .i64 (RI.mk y1 y2 false).hi.e, .bool (RI.mk y1 y2 false).all, .bool (RI.mk y3 y4 false).lo.neg, .slice (RI.mk y3 y4 false).lo.a (RI.mk y3 y4 false).lo.xs.length (RI.mk y3 y4 false).lo.c, .int .i64 (RI.mk y3 y4 false).lo.e, .bool (RI.mk y3 y4 false).hi.neg, .slice (RI.mk y3 y4 false).hi.a (RI.mk y3 y4 false).hi.xs.length (RI.mk y3 y4 false).hi.c, .int .i64 (RI.mk y3 y4 false).hi.e, .bool (RI.mk y3 y4 false).all] 43)
      have hR := rowI_twoR v4 ⟨y1, y2, false⟩ ⟨y3, y4, false⟩ ⟨oy1.1, oy2.1⟩ ⟨oy3.1, oy4.1⟩ 43
      have hM := rowM_alloc1 (c := 2) hR (by simp) 40
      rw [World.size_alloc] at hM
      exact ⟨_, ⟨y1, y2, false⟩, ⟨y3, y4, false⟩, rfl, hM, pl_int dy1 dy2, pl_int dy3 dy4, vlM_one2 (vl_int oy1 oy2 dy1 dy2 (by decide)) (vl_int oy3 oy4 dy3 dy4 (by decide)), (HK.trans hk4).alloc _⟩
  case rest =>
  obtain ⟨bA, x1, x2, rfl, hA, pA1, pA2, vA, hk⟩ := hcut
  obtain ⟨W1, hW1⟩ : ∃ x : World, x = wc := ⟨_, rfl⟩
  subst hW1
  have HA := Lib.hid (And.intro hA (And.intro pA1 (And.intro pA2 vA)))
  have HK1 := Lib.hid hk
  clear hA pA1 pA2 vA hk
  go_upto_region 2 with fail
  go_cut [2] from 15 to 23 (fun s wx => ∃ (b : Nat) (x3 x4 : RI), s = .slice (some ⟨b, 0, none⟩) 2 2 ∧ RowM wx (some ⟨b, 0, none⟩) [[x3], [x4]] ∧ x3.pl = pnI 3 3 ∧ x4.pl = pnI 4 4 ∧ vlM [[x3], [x4]] = true ∧ Kp W1 wx)
  case first =>
    have HK := Kp.refl W1
    go_wp2_with fail
    go_fit (num7_any (3) _ (by decide) (by decide))
    rintro e v1 ⟨y1, rfl, oy1, dy1, j1⟩
    replace HK := HK.trans j1
    go_wp2_with fail
    go_fit (num7_any (3) _ (by decide) (by decide))
    rintro e v2 ⟨y2, rfl, oy2, dy2, j2⟩
    replace oy1 := oy1.kp j2
    replace HK := HK.trans j2
    have kR := (Kp.refl v2).alloc (.cells #[.bool (RI.mk y1 y2 false).lo.neg, .slice (RI.mk y1 y2 false).lo.a (RI.mk y1 y2 false).lo.xs.length (RI.mk y1 y2 false).lo.c, .int .i64 (RI.mk y1 y2 false).lo.e, .bool (RI.mk y1 y2 false).hi.neg, .slice (RI.mk y1 y2 false).hi.a (RI.mk y1 y2 false).hi.xs.length (RI.mk y1 y2 false).hi.c, .int .i64 (RI.mk y1 y2 false).hi.e, .bool (RI.mk y1 y2 false).all] 43)
    have hR1 := rowI_oneR v2 ⟨y1, y2, false⟩ ⟨oy1.1, oy2.1⟩ 43
    replace oy1 := oy1.kp kR
    replace oy2 := oy2.kp kR
    replace HK := HK.trans kR
    clear kR
    go_wp2_with fail
    go_fit (num7_any (4) _ (by decide) (by decide))
    rintro e v3 ⟨y3, rfl, oy3, dy3, j3⟩
    replace oy1 := oy1.kp j3
    replace oy2 := oy2.kp j3
    replace HK := HK.trans j3
    replace hR1 := hR1.kp j3
    go_wp2_with fail
    go_fit (num7_any (4) _ (by decide) (by decide))
    rintro e v4 ⟨y4, rfl, oy4, dy4, j4⟩
    replace oy1 := oy1.kp j4
    replace oy2 := oy2.kp j4
    replace oy3 := oy3.kp j4
    replace HK := HK.trans j4
    replace hR1 := hR1.kp j4
    go_wp2_with fail
    go_meet
    case rel =>
      have hk4 := (Kp.refl v4).alloc (.cells #[.bool (RI.mk y3 y4 false).lo.neg, .slice (RI.mk y3 y4 false).lo.a (RI.mk y3 y4 false).lo.xs.length (RI.mk y3 y4 false).lo.c, .int .i64 (RI.mk y3 y4 false).lo.e, .bool (RI.mk y3 y4 false).hi.neg, .slice (RI.mk y3 y4 false).hi.a (RI.mk y3 y4 false).hi.xs.length (RI.mk y3 y4 false).hi.c, .int .i64 (RI.mk y3 y4 false).hi.e, .bool (RI.mk y3 y4 false).all] 43)
      have hR2 := rowI_oneR v4 ⟨y3, y4, false⟩ ⟨oy3.1, oy4.1⟩ 43
      have hM := rowM_alloc2 (c := 1) (d := 1) (hR1.kp hk4) hR2 (by simp) (by simp) 40
      rw [World.size_alloc] at hM
      exact ⟨_, ⟨y1, y2, false⟩, ⟨y3, y4, false⟩, rfl, hM, pl_int dy1 dy2, pl_int dy3 dy4, vlM_two1 (vl_int oy1 oy2 dy1 dy2 (by decide)) (vl_int oy3 oy4 dy3 dy4 (by decide)), (HK.trans hk4).alloc _⟩
  case rest =>
  obtain ⟨bB, x3, x4, rfl, hB, pB1, pB2, vB, hk⟩ := hcut
  obtain ⟨W2, hW2⟩ : ∃ x : World, x = wc := ⟨_, rfl⟩
  subst hW2
  have HM := Lib.hid (mmul_any (some ⟨bA, 0, none⟩) (some ⟨bB, 0, none⟩) [[x1, x2]] [[x3], [x4]] 1 2 24 W2 (HA.out.1.kp hk) hB (by simp) (by simp) (hT.kp (HK1.out.trans hk)))
  have HE := Lib.hid (show mulC [[x1, x2]] [[x3], [x4]] 24 = ([[pnI 11 11]], 0) by
    unfold mulC
    rw [HA.out.2.2.2, vB, if_neg (by decide), if_neg (by decide), if_neg (by show ¬ (2 ≠ 2); decide)]
    rw [show (24 : Int).toNat = 24 from rfl, awk_mul [[x1, x2]] [[x3], [x4]] ⟨HA.out.2.1, HA.out.2.2.1⟩ pB1 pB2 rfl rfl rfl])
  have HK2 := Lib.hid (HK1.out.trans hk)
  clear HA HK1 hB pB1 pB2 vB hk
  go_wp2_with fail
  go_fit HM.out
  rintro e w3 hE
  rw [HE.out] at hE
  obtain ⟨aZ, Z, cZ, rfl, hZ, pZ, okZ, _, k3⟩ := hE
  obtain ⟨z, rfl, pz⟩ := plM_one pZ
  have vz := okZ [z] (by simp) z (by simp)
  have HZ := Lib.hid (And.intro hZ (And.intro pz vz))
  have HK3 := Lib.hid (HK2.out.trans k3)
  clear hZ pZ okZ pz vz k3 HM HE HK2
  go_upto_region 4 with fail
  go_cut [5, 6] from 30 to 46 (fun s t wx => ∃ (b : Nat) (y : RD), s = .pointer (some ⟨b, 0, none⟩) ∧ t = .bool true ∧ y.ok wx ∧ y.dy = intD 5 ∧ (wx.cell? ⟨b, 0, none⟩ = some (.bool y.neg) ∧ wx.cell? ⟨b, 1, none⟩ = some (.slice y.a y.xs.length y.c) ∧ wx.cell? ⟨b, 2, none⟩ = some (.int .i64 y.e)) ∧ Kp w3 wx)
  case first =>
    have HK := Kp.refl w3
    have HT3 := Lib.hid (hT.kp HK3.out)
    clear hT
    go_wp2_with fail
    go_fit (num7_any (-2) _ (by decide) (by decide))
    rintro e v1 ⟨y1, rfl, oy1, dy1, j1⟩
    replace HK := HK.trans j1
    go_wp2_with fail
    go_fit (num7_any (1) _ (by decide) (by decide))
    rintro e v2 ⟨y2, rfl, oy2, dy2, j2⟩
    replace oy1 := oy1.kp j2
    replace HK := HK.trans j2
    go_wp2_with fail
    go_fit (num7_any (3) _ (by decide) (by decide))
    rintro e v3 ⟨y3, rfl, oy3, dy3, j3⟩
    replace oy1 := oy1.kp j3
    replace oy2 := oy2.kp j3
    replace HK := HK.trans j3
    go_wp2_with fail
    go_fit (num7_any (3) _ (by decide) (by decide))
    rintro e v4 ⟨y4, rfl, oy4, dy4, j4⟩
    replace oy1 := oy1.kp j4
    replace oy2 := oy2.kp j4
    replace oy3 := oy3.kp j4
    replace HK := HK.trans j4
    have kR := (Kp.refl v4).alloc (.cells #[.bool (RI.mk y1 y2 false).lo.neg, .slice (RI.mk y1 y2 false).lo.a (RI.mk y1 y2 false).lo.xs.length (RI.mk y1 y2 false).lo.c, .int .i64 (RI.mk y1 y2 false).lo.e, .bool (RI.mk y1 y2 false).hi.neg, .slice (RI.mk y1 y2 false).hi.a (RI.mk y1 y2 false).hi.xs.length (RI.mk y1 y2 false).hi.c, .int .i64 (RI.mk y1 y2 false).hi.e, .bool (RI.mk y1 y2 false).all, .bool (RI.mk y3 y4 false).lo.neg, .slice (RI.mk y3 y4 false).lo.a (RI.mk y3 y4 false).lo.xs.length (RI.mk y3 y4 false).lo.c, .int .i64 (RI.mk y3 y4 false).lo.e, .bool (RI.mk y3 y4 false).hi.neg, .slice (RI.mk y3 y4 false).hi.a (RI.mk y3 y4 false).hi.xs.length (RI.mk y3 y4 false).hi.c, .int .i64 (RI.mk y3 y4 false).hi.e, .bool (RI.mk y3 y4 false).all] 43)
    have hR1 := rowI_twoR v4 ⟨y1, y2, false⟩ ⟨y3, y4, false⟩ ⟨oy1.1, oy2.1⟩ ⟨oy3.1, oy4.1⟩ 43
    replace oy1 := oy1.kp kR
    replace oy2 := oy2.kp kR
    replace oy3 := oy3.kp kR
    replace oy4 := oy4.kp kR
    replace HK := HK.trans kR
    clear kR
    go_wp2_with fail
    go_fit (num7_any (4) _ (by decide) (by decide))
    rintro e v5 ⟨y5, rfl, oy5, dy5, j5⟩
    replace oy1 := oy1.kp j5
    replace oy2 := oy2.kp j5
    replace oy3 := oy3.kp j5
    replace oy4 := oy4.kp j5
    replace HK := HK.trans j5
    replace hR1 := hR1.kp j5
    go_wp2_with fail
    go_fit (num7_any (4) _ (by decide) (by decide))
    rintro e v6 ⟨y6, rfl, oy6, dy6, j6⟩
    replace oy1 := oy1.kp j6
    replace oy2 := oy2.kp j6
    replace oy3 := oy3.kp j6
    replace oy4 := oy4.kp j6
    replace oy5 := oy5.kp j6
    replace HK := HK.trans j6
    replace hR1 := hR1.kp j6
    have hk4 := (Kp.refl v6).alloc (.cells #[.bool (RI.mk rdZero rdZero false).lo.neg, .slice (RI.mk rdZero rdZero false).lo.a (RI.mk rdZero rdZero false).lo.xs.length (RI.mk rdZero rdZero false).lo.c, .int .i64 (RI.mk rdZero rdZero false).lo.e, .bool (RI.mk rdZero rdZero false).hi.neg, .slice (RI.mk rdZero rdZero false).hi.a (RI.mk rdZero rdZero false).hi.xs.length (RI.mk rdZero rdZero false).hi.c, .int .i64 (RI.mk rdZero rdZero false).hi.e, .bool (RI.mk rdZero rdZero false).all, .bool (RI.mk y5 y6 false).lo.neg, .slice (RI.mk y5 y6 false).lo.a (RI.mk y5 y6 false).lo.xs.length (RI.mk y5 y6 false).lo.c, .int .i64 (RI.mk y5 y6 false).lo.e, .bool (RI.mk y5 y6 false).hi.neg, .slice (RI.mk y5 y6 false).hi.a (RI.mk y5 y6 false).hi.xs.length (RI.mk y5 y6 false).hi.c, .int .i64 (RI.mk y5 y6 false).hi.e, .bool (RI.mk y5 y6 false).all] 43)
    have hR2 := rowI_twoR v6 ⟨rdZero, rdZero, false⟩ ⟨y5, y6, false⟩ ⟨rdZero_rd _, rdZero_rd _⟩ ⟨oy5.1, oy6.1⟩ 43
    have hM := rowM_alloc2 (c := 2) (d := 2) (hR1.kp hk4) hR2 (by simp) (by simp) 40
    rw [World.size_alloc] at hM
    have hk5 := (HK.trans hk4).alloc (.cells #[.slice (some ⟨v4.heap.size, 0, none⟩) 2 2, .slice (some ⟨v6.heap.size, 0, none⟩) 2 2] 40)
    have hN := Lib.hid (mnorm_any (some ⟨v6.heap.size + 1, 0, none⟩) [[⟨y1, y2, false⟩, ⟨y3, y4, false⟩], [⟨rdZero, rdZero, false⟩, ⟨y5, y6, false⟩]] 2 24 _ hM (by simp) (HT3.out.kp hk5))
    have oz : rdZero.ok v6 := ⟨rdZero_rd _, rdZero_vl⟩
    have HE := Lib.hid (show nrmO [[⟨y1, y2, false⟩, ⟨y3, y4, false⟩], [⟨rdZero, rdZero, false⟩, ⟨y5, y6, false⟩]] 24 = some (intD 5) by
      unfold nrmO
      rw [vlM_two2 (vl_int oy1 oy2 dy1 dy2 (by decide)) (vl_int oy3 oy4 dy3 dy4 (by decide)) (vl_int oz oz (a := 0) (b := 0) rfl rfl (by decide)) (vl_int oy5 oy6 dy5 dy6 (by decide)), if_pos (by decide), show (24 : Int).toNat = 24 from rfl]
      exact awk_norm (pl_int dy1 dy2) (pl_int dy3 dy4) (pl_int (a := 0) (b := 0) rfl rfl) (pl_int dy5 dy6))
    have HK5 := Lib.hid hk5
    clear hR1 hR2 hM hk4 hk5 HK oy1 oy2 oy3 oy4 oy5 oy6 dy1 dy2 dy3 dy4 dy5 dy6 oz
    go_wp2_with fail
    go_fit hN.out
    rintro e v7 hQ
    rw [HE.out] at hQ
    obtain ⟨y, rfl, ry, dy, vy, j7⟩ := hQ
    have ka := (Kp.refl v7).alloc (.cells #[.bool y.neg, .slice y.a y.xs.length y.c, .int .i64 y.e] 28)
    have OY := Lib.hid (show y.ok (v7.alloc (.cells #[.bool y.neg, .slice y.a y.xs.length y.c, .int .i64 y.e] 28)) from ⟨ry.kp ka, vy⟩)
    have DY := Lib.hid (show y.dy = intD 5 from dy)
    have HK7 := Lib.hid ((HK5.out.trans j7).trans ka)
    clear hN HE HK5 ry dy vy j7 ka
    go_wp2_with fail
    generalize hW : v7.alloc _ = A4 at *
    have hZ4 : A4.cell? ⟨v7.heap.size, 0, none⟩ = some (.bool y.neg) ∧ A4.cell? ⟨v7.heap.size, 1, none⟩ = some (.slice y.a y.xs.length y.c) ∧ A4.cell? ⟨v7.heap.size, 2, none⟩ = some (.int .i64 y.e) := by rw [← hW]; simp
    clear hW
    go_meet
    case rel => exact ⟨_, y, rfl, rfl, OY.out, DY.out, hZ4, HK7.out⟩
  case rest =>
  obtain ⟨b4, y, rfl, rfl, oy, dy, hY, k4⟩ := hcut
  obtain ⟨W4, hW4⟩ : ∃ x : World, x = wc := ⟨_, rfl⟩
  subst hW4
  obtain ⟨b1, o1, ra, rc, rfl, hc1, hrow, _⟩ := (HZ.out.1.kp k4) 0 [z] rfl
  obtain ⟨b2, o2, rfl, hrz, hc2⟩ := hrow 0 z rfl
  rw [Nat.add_zero] at hc1
  rw [Nat.zero_mul, Nat.add_zero] at hc2
  have kd := (Kp.refl W4).drew
  have hSS : W4.drew.cell? ⟨b1, o1, none⟩ = some (.slice (some ⟨b2, o2, none⟩) 1 rc) ∧ W4.drew.cell? ⟨b2, o2, none⟩ = some (.bool z.lo.neg) ∧ W4.drew.cell? ⟨b2, o2 + 1, none⟩ = some (.slice z.lo.a z.lo.xs.length z.lo.c) ∧ W4.drew.cell? ⟨b2, o2 + 2, none⟩ = some (.int .i64 z.lo.e) ∧ W4.drew.cell? ⟨b2, o2 + 3, none⟩ = some (.bool z.hi.neg) ∧ W4.drew.cell? ⟨b2, o2 + 4, none⟩ = some (.slice z.hi.a z.hi.xs.length z.hi.c) ∧ W4.drew.cell? ⟨b2, o2 + 5, none⟩ = some (.int .i64 z.hi.e) ∧ W4.drew.cell? ⟨b4, 0, none⟩ = some (.bool y.neg) ∧ W4.drew.cell? ⟨b4, 1, none⟩ = some (.slice y.a y.xs.length y.c) ∧ W4.drew.cell? ⟨b4, 2, none⟩ = some (.int .i64 y.e) :=
    ⟨kd.cell hc1, kd.cell hc2.1, kd.cell hc2.2.1, kd.cell hc2.2.2.1, kd.cell hc2.2.2.2.1, kd.cell hc2.2.2.2.2.1, kd.cell hc2.2.2.2.2.2.1, keep3 kd hY⟩
  have HSS := Lib.hid hSS
  have HK := Lib.hid (Kp.refl W4.drew)
  have HKW := Lib.hid ((HK3.out.trans k4).trans kd)
  have hzv := HZ.out.2.2
  have hza : z.all = false := congrArg PI.all HZ.out.2.1
  have ozI : z.ok W4.drew := ok_of (hrz.kp kd) hzv hza
  have OL := Lib.hid ozI.lo
  have OH := Lib.hid ozI.hi
  have DL := Lib.hid (show z.lo.dy = intD 11 from congrArg PI.lo HZ.out.2.1)
  have DH := Lib.hid (show z.hi.dy = intD 11 from congrArg PI.hi HZ.out.2.1)
  have OY := Lib.hid (oy.kp kd)
  have RL := Lib.hid OL.out.1
  have RH := Lib.hid OH.out.1
  have RY := Lib.hid OY.out.1
  have DY := Lib.hid dy
  clear hSS hc1 hc2 hY hrz hrow kd oy dy hzv hza ozI k4 hT
  go_upto_region 5 with fail
  go_region_held3 (fun w' => w'.cell? ⟨b1, o1, none⟩ = some (.slice (some ⟨b2, o2, none⟩) 1 rc) ∧ w'.cell? ⟨b2, o2, none⟩ = some (.bool z.lo.neg) ∧ w'.cell? ⟨b2, o2 + 1, none⟩ = some (.slice z.lo.a z.lo.xs.length z.lo.c) ∧ w'.cell? ⟨b2, o2 + 2, none⟩ = some (.int .i64 z.lo.e) ∧ w'.cell? ⟨b2, o2 + 3, none⟩ = some (.bool z.hi.neg) ∧ w'.cell? ⟨b2, o2 + 4, none⟩ = some (.slice z.hi.a z.hi.xs.length z.hi.c) ∧ w'.cell? ⟨b2, o2 + 5, none⟩ = some (.int .i64 z.hi.e) ∧ w'.cell? ⟨b4, 0, none⟩ = some (.bool y.neg) ∧ w'.cell? ⟨b4, 1, none⟩ = some (.slice y.a y.xs.length y.c) ∧ w'.cell? ⟨b4, 2, none⟩ = some (.int .i64 y.e)) (first | with_reducible exact HSS.out | with_reducible exact keep10 HK.out HSS.out)
    (first
      | (go_at_call_of 51 (Value.int .i64 11); refine (num7_any 11 _ (by decide) (by decide)).mono ?_; rintro e vv ⟨n1, rfl, ⟨rn1, vn1⟩, dn1, j⟩; replace HK := Lib.hid (HK.out.trans j); clear j)
      | (go_at_call_of 51 (Value.int .i64 5); refine (num7_any 5 _ (by decide) (by decide)).mono ?_; rintro e vv ⟨n2, rfl, ⟨rn2, vn2⟩, dn2, j⟩; replace HK := Lib.hid (HK.out.trans j); clear j)
      | (go_at_call 16; (with_reducible refine (number7_any z.lo n1 _ (RL.out.kp HK.out) rn1).mono ?_); rw [sameR_dy (OL.out.kp HK.out) ⟨rn1, vn1⟩ (DL.out.trans dn1.symm)]; rintro e vv ⟨rfl, j⟩; replace HK := Lib.hid (HK.out.trans j); clear j)
      | (go_at_call 16; (with_reducible refine (number7_any z.hi n1 _ (RH.out.kp HK.out) rn1).mono ?_); rw [sameR_dy (OH.out.kp HK.out) ⟨rn1, vn1⟩ (DH.out.trans dn1.symm)]; rintro e vv ⟨rfl, j⟩; replace HK := Lib.hid (HK.out.trans j); clear j)
      | (go_at_call 16; (with_reducible refine (number7_any y n2 _ (RY.out.kp HK.out) rn2).mono ?_); rw [sameR_dy (OY.out.kp HK.out) ⟨rn2, vn2⟩ (DY.out.trans dn2.symm)]; rintro e vv ⟨rfl, j⟩; replace HK := Lib.hid (HK.out.trans j); clear j)
      | fail)
  go_wp2_with fail
  go_ret
  exact ⟨rfl, HKW.out.trans HK.out⟩
end Go.Proofs.YtdidocdpjiiedaaGreatDoor
