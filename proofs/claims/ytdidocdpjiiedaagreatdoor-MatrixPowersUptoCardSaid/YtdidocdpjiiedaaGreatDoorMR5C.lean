/-
  Walks: the fifth reference's Add.
-/
import Derived.Test.YtdidocdpjiiedaaGreatDoorMR5B
import Derived.Test.YtdidocdpjiiedaaGreatDoorMR3C
namespace Go.Proofs.YtdidocdpjiiedaaGreatDoor
open Go.RowKit

set_option maxRecDepth 100000 in
set_option maxHeartbeats 8000000 in
theorem r5add_any (x y : RI) (p : Nat) (w : World) (hx : x.rd w) (hy : y.rd w) (vx : x.vl = true) (vy : y.vl = true) (h0 : 8 ≤ p) (h1 : p ≤ 512) (hT : Tab w) :
    Calls Tryz.prog 79 #[.agg #[.bool x.lo.neg, .slice x.lo.a x.lo.xs.length x.lo.c, .int .i64 x.lo.e, .bool x.hi.neg, .slice x.hi.a x.hi.xs.length x.hi.c, .int .i64 x.hi.e, .bool x.all], .agg #[.bool y.lo.neg, .slice y.lo.a y.lo.xs.length y.lo.c, .int .i64 y.lo.e, .bool y.hi.neg, .slice y.hi.a y.hi.xs.length y.hi.c, .int .i64 y.hi.e, .bool y.all], .int .i64 p] w (IvOut w (pAdd x.pl y.pl p)) := by
  have Hp := Lib.hid (show preB (p : Int) = true from preB_iff.2 ⟨by omega, by omega⟩)
  go_enter Tryz.func79, Tryz.ntmps79
  go_wp2_with fail
  generalize hW : (((w.alloc _).alloc _).alloc _) = W at *
  have hk : Kp w W := hW ▸ (((Kp.refl w).alloc _).alloc _).alloc _
  have hS : (W.cell? ⟨w.heap.size, 0, none⟩ = some (.bool x.lo.neg) ∧ W.cell? ⟨w.heap.size, 1, none⟩ = some (.slice x.lo.a x.lo.xs.length x.lo.c) ∧ W.cell? ⟨w.heap.size, 2, none⟩ = some (.int .i64 x.lo.e) ∧ W.cell? ⟨w.heap.size, 3, none⟩ = some (.bool x.hi.neg) ∧ W.cell? ⟨w.heap.size, 4, none⟩ = some (.slice x.hi.a x.hi.xs.length x.hi.c) ∧ W.cell? ⟨w.heap.size, 5, none⟩ = some (.int .i64 x.hi.e) ∧ W.cell? ⟨w.heap.size, 6, none⟩ = some (.bool x.all)) ∧ W.cell? ⟨w.heap.size + 1, 0, none⟩ = some (.bool y.lo.neg) ∧ W.cell? ⟨w.heap.size + 1, 1, none⟩ = some (.slice y.lo.a y.lo.xs.length y.lo.c) ∧ W.cell? ⟨w.heap.size + 1, 2, none⟩ = some (.int .i64 y.lo.e) ∧ W.cell? ⟨w.heap.size + 1, 3, none⟩ = some (.bool y.hi.neg) ∧ W.cell? ⟨w.heap.size + 1, 4, none⟩ = some (.slice y.hi.a y.hi.xs.length y.hi.c) ∧ W.cell? ⟨w.heap.size + 1, 5, none⟩ = some (.int .i64 y.hi.e) ∧ W.cell? ⟨w.heap.size + 1, 6, none⟩ = some (.bool y.all) := by rw [← hW]; exact keep77 ((Kp.refl _).alloc _) (by simp)
  have hV : Var7 W (w.heap.size + 1 + 1) := by rw [← hW]; exact Var7.new2 _ _ _ _
  clear hW
  go_fit (r5prec_any (p : Int) _)
  rintro e w0 ⟨rfl, rfl⟩
  rw [Hp.out]
  obtain ⟨⟨s0, s1, s2, s3, s4, s5, s6⟩, t0, t1, t2, t3, t4, t5, t6⟩ := id hS
  go_wp2_with fail
  go_fit (r5known_any x _ (hx.kp hk))
  rintro e w1 ⟨rfl, hk1⟩
  have hS1 := keep77 hk1 hS
  have hV1 := hV.kp hk1
  have hk2 := (hk.trans hk1)
  have hT1 := hT.kp hk2
  have hx1 := hx.kp hk2
  have hy1 := hy.kp hk2
  have gx := goodI_vl vx
  have gy := goodI_vl vy
  clear hS hV hk hk1 s0 s1 s2 s3 s4 s5 s6 t0 t1 t2 t3 t4 t5 t6
  cases hax : x.all with
  | true =>
    have HP := Lib.hid (show pAdd x.pl y.pl p = .whole by unfold pAdd; rw [if_pos (by show (x.all || y.all) = true; rw [hax]; rfl)])
    have hg : goodI x = false := by rw [gx, hax]; rfl
    rw [hg]
    clear hg gx gy hS1
    go_wp2_with fail
    go_fit (r5Whole_any _)
    rintro e wz ⟨rfl, hkz⟩
    have hk4 := hk2.trans hkz
    obtain ⟨⟨q0, q1, q2, q3, q4, q5, q6⟩, f0, f1, f2, f3, f4, f5, f6⟩ := hV1.kp hkz
    go_wp2_with fail
    generalize hW9 : ((((((wz.setCell _ _).setCell _ _).setCell _ _).setCell _ _).setCell _ _).setCell _ _).setCell _ _ = W9
    obtain ⟨⟨s0, s1, s2, s3, s4, s5, s6⟩, hU⟩ := stored7 (show Box7 wz _ _ _ _ _ _ _ _ from ⟨q0, q1, q2, q3, q4, q5, q6⟩) (fun _ h => by cases h) (fun _ h => by cases h) (fun _ h => by cases h) (fun _ h => by cases h) (fun _ h => by cases h) (fun _ h => by cases h) (fun _ h => by cases h) _ _ _ _ _ _ _ hW9
    clear hW9 q0 q1 q2 q3 q4 q5 q6 f0 f1 f2 f3 f4 f5 f6
    refine bodyPost_ret (v := .agg #[.bool false, .slice none 0 0, .int .i64 0, .bool false, .slice none 0 0, .int .i64 0, .bool true]) (by simp [results, Tryz.results79, go_sem, s0, s1, s2, s3, s4, s5, s6]) rfl ?_
    rw [HP.out]
    exact ⟨wholeR, rfl, wholeR_rd _, rfl, rfl, hU.2.2.1 _ hk4 (by omega)⟩
  | false =>
    have hg : goodI x = true := by rw [gx, hax]; rfl
    rw [hg]
    clear hg gx
    obtain ⟨⟨s0, s1, s2, s3, s4, s5, s6⟩, t0, t1, t2, t3, t4, t5, t6⟩ := id hS1
    have Hax := Lib.hid hax
    clear hax
    go_wp2_with fail
    go_fit (r5known_any y _ hy1)
    rintro e w1b ⟨rfl, hk1⟩
    replace hS1 := keep77 hk1 hS1
    replace hV1 := hV1.kp hk1
    replace hk2 := (hk2.trans hk1)
    replace hx1 := hx1.kp hk1
    replace hy1 := hy1.kp hk1
    clear hk1 hT1 s0 s1 s2 s3 s4 s5 s6 t0 t1 t2 t3 t4 t5 t6
    have hax := Hax.out
    cases hay : y.all with
    | true =>
      have HP := Lib.hid (show pAdd x.pl y.pl p = .whole by unfold pAdd; rw [if_pos (by show (x.all || y.all) = true; rw [hay]; simp)])
      have hg : goodI y = false := by rw [gy, hay]; rfl
      rw [hg]
      clear hg gy hS1 hax
      go_wp2_with fail
      go_fit (r5Whole_any _)
      rintro e wz ⟨rfl, hkz⟩
      have hk4 := hk2.trans hkz
      obtain ⟨⟨q0, q1, q2, q3, q4, q5, q6⟩, f0, f1, f2, f3, f4, f5, f6⟩ := hV1.kp hkz
      go_wp2_with fail
      generalize hW9 : ((((((wz.setCell _ _).setCell _ _).setCell _ _).setCell _ _).setCell _ _).setCell _ _).setCell _ _ = W9
      obtain ⟨⟨s0, s1, s2, s3, s4, s5, s6⟩, hU⟩ := stored7 (show Box7 wz _ _ _ _ _ _ _ _ from ⟨q0, q1, q2, q3, q4, q5, q6⟩) (fun _ h => by cases h) (fun _ h => by cases h) (fun _ h => by cases h) (fun _ h => by cases h) (fun _ h => by cases h) (fun _ h => by cases h) (fun _ h => by cases h) _ _ _ _ _ _ _ hW9
      clear hW9 q0 q1 q2 q3 q4 q5 q6 f0 f1 f2 f3 f4 f5 f6
      refine bodyPost_ret (v := .agg #[.bool false, .slice none 0 0, .int .i64 0, .bool false, .slice none 0 0, .int .i64 0, .bool true]) (by simp [results, Tryz.results79, go_sem, s0, s1, s2, s3, s4, s5, s6]) rfl ?_
      rw [HP.out]
      exact ⟨wholeR, rfl, wholeR_rd _, rfl, rfl, hU.2.2.1 _ hk4 (by omega)⟩
    | false =>
      have hg : goodI y = true := by rw [gy, hay]; rfl
      rw [hg]
      clear hg gy
      have ox := ok_of hx1 vx hax
      have oy := ok_of hy1 vy hay
      have HP := Lib.hid (show pAdd x.pl y.pl p = mkI (adP x.lo.dy y.lo.dy p false) (adP x.hi.dy y.hi.dy p true) by unfold pAdd; rw [if_neg (by show ¬ (x.all || y.all) = true; rw [hax, hay]; decide)]; rfl)
      have E1 := Lib.hid (addB_dy ox.lo oy.lo h0 h1 false)
      have E2 := Lib.hid (addB_dy ox.hi oy.hi h0 h1 true)
      have HOK := Lib.hid (fun a b => rndE_between (K := 0) (S := x.lo.dy.iv + y.lo.dy.iv) (T := x.hi.dy.iv + y.hi.dy.iv) (p := p) (q := p) (by omega) (by omega) (by omega) (by omega) (by
        have u1 := ox.parts.2.2
        have u2 := oy.parts.2.2
        show x.lo.iv + y.lo.iv ≤ x.hi.iv + y.hi.iv
        omega) a b)
      have C1 := fun (W : World) (k : Kp w1b W) => r3add_any x.lo y.lo (p : Int) false W (ox.lo.1.kp k) (oy.lo.1.kp k)
      have C2 := fun (W : World) (k : Kp w1b W) => r3add_any x.hi y.hi (p : Int) true W (ox.hi.1.kp k) (oy.hi.1.kp k)
      rw [E1.out] at C1
      rw [E2.out] at C2
      have K1 := Lib.hid (adP_ok x.lo.dy y.lo.dy h0 h1 false)
      have K2 := Lib.hid (adP_ok x.hi.dy y.hi.dy h0 h1 true)
      obtain ⟨L, hL⟩ : ∃ L, L = adP x.lo.dy y.lo.dy p false := ⟨_, rfl⟩
      obtain ⟨H, hH⟩ : ∃ H, H = adP x.hi.dy y.hi.dy p true := ⟨_, rfl⟩
      have HOK2 := Lib.hid (show L.2 = 0 → H.2 = 0 → L.1.iv ≤ H.1.iv by rw [hL, hH]; exact HOK.out)
      rw [← hL] at C1 HP K1
      rw [← hH] at C2 HP K2
      have D1 := Lib.hid C1
      have D2 := Lib.hid C2
      clear hax hay C1 C2 E1 E2 HOK hL hH
      have Ox := Lib.hid ox
      have Oy := Lib.hid oy
      clear ox oy
      go_wp2_with fail
      obtain ⟨⟨s0, s1, s2, s3, s4, s5, s6⟩, t0, t1, t2, t3, t4, t5, t6⟩ := id hS1
      go_wp2_with fail
      go_fit (D1.out _ (.refl _))
      rintro e w3 ⟨z1, rfl, rz, dz, vz, k3⟩
      have ka := (Kp.refl w3).alloc (.cells #[.bool z1.neg, .slice z1.a z1.xs.length z1.c, .int .i64 z1.e] 28)
      have k3a := k3.trans ka
      have R1 := Lib.hid (rz.kp ka)
      have Z1 := Lib.hid (And.intro dz (vz K1.out))
      have hS2 := keep77 k3a hS1
      have hV2 := hV1.kp k3a
      have hk3 := hk2.trans k3a
      clear rz dz vz hS1 hV1 s0 s1 s2 s3 s4 s5 s6 t0 t1 t2 t3 t4 t5 t6 k3
      obtain ⟨⟨s0, s1, s2, s3, s4, s5, s6⟩, t0, t1, t2, t3, t4, t5, t6⟩ := id hS2
      go_wp2_with fail
      generalize hA3 : w3.alloc _ = A3 at *
      have hZ1 : A3.cell? ⟨w3.heap.size, 0, none⟩ = some (.bool z1.neg) ∧ A3.cell? ⟨w3.heap.size, 1, none⟩ = some (.slice z1.a z1.xs.length z1.c) ∧ A3.cell? ⟨w3.heap.size, 2, none⟩ = some (.int .i64 z1.e) := by rw [← hA3]; simp
      clear hA3 ka
      go_fit (D2.out _ k3a)
      rintro e w4 ⟨z2, rfl, rz, dz, vz, k4⟩
      have ka := (Kp.refl w4).alloc (.cells #[.bool z2.neg, .slice z2.a z2.xs.length z2.c, .int .i64 z2.e] 28)
      have k4a := k4.trans ka
      have R2 := Lib.hid (rz.kp ka)
      have Z2 := Lib.hid (And.intro dz (vz K2.out))
      have hZ1b := keep3 k4a hZ1
      have R1b := Lib.hid (R1.out.kp k4a)
      have hV3 := hV2.kp k4a
      have hk4 := hk3.trans k4a
      clear rz dz vz hS2 hV2 hZ1 R1 s0 s1 s2 s3 s4 s5 s6 t0 t1 t2 t3 t4 t5 t6 k4 D1 D2
      obtain ⟨m0, m1, m2⟩ := hZ1b
      go_wp2_with fail
      generalize hA4 : w4.alloc _ = A4 at *
      obtain ⟨n0, n1, n2⟩ : A4.cell? ⟨w4.heap.size, 0, none⟩ = some (.bool z2.neg) ∧ A4.cell? ⟨w4.heap.size, 1, none⟩ = some (.slice z2.a z2.xs.length z2.c) ∧ A4.cell? ⟨w4.heap.size, 2, none⟩ = some (.int .i64 z2.e) := by rw [← hA4]; simp
      clear hA4 ka
      go_fit (r5made_any z1 z2 _ _ _)
      rintro e w5 ⟨rfl, k5⟩
      have hk5 := hk4.trans k5
      obtain ⟨⟨q0, q1, q2, q3, q4, q5, q6⟩, f0, f1, f2, f3, f4, f5, f6⟩ := hV3.kp k5
      have R3 := Lib.hid (madeR_rd (e := L.2) (f := H.2) (R1b.out.kp k5) (R2.out.kp k5))
      have Zp := Lib.hid (madeR_pl (l := L) (h := H) Z1.out.1 Z2.out.1)
      have Zv := Lib.hid (madeR_vl (l := L) (h := H) Z1.out.1 Z2.out.1 Z1.out.2 Z2.out.2 HOK2.out)
      clear m0 m1 m2 n0 n1 n2 hV3
      generalize madeR z1 z2 L.2 H.2 = Z at *
      go_wp2_with fail
      generalize hW9 : ((((((w5.setCell _ _).setCell _ _).setCell _ _).setCell _ _).setCell _ _).setCell _ _).setCell _ _ = W9
      obtain ⟨⟨s0, s1, s2, s3, s4, s5, s6⟩, hU⟩ := stored7 (show Box7 w5 _ _ _ _ _ _ _ _ from ⟨q0, q1, q2, q3, q4, q5, q6⟩) (fun _ h => by cases h) (fun _ h => by cases h) (fun _ h => by cases h) (fun _ h => by cases h) (fun _ h => by cases h) (fun _ h => by cases h) (fun _ h => by cases h) _ _ _ _ _ _ _ hW9
      clear hW9 q0 q1 q2 q3 q4 q5 q6 f0 f1 f2 f3 f4 f5 f6
      refine bodyPost_ret (v := .agg #[.bool Z.lo.neg, .slice Z.lo.a Z.lo.xs.length Z.lo.c, .int .i64 Z.lo.e, .bool Z.hi.neg, .slice Z.hi.a Z.hi.xs.length Z.hi.c, .int .i64 Z.hi.e, .bool Z.all]) (by simp [results, Tryz.results79, go_sem, s0, s1, s2, s3, s4, s5, s6]) rfl ?_
      rw [HP.out]
      exact ⟨Z, rfl, hU.rdI R3.out, Zp.out, Zv.out, hU.2.2.1 _ hk5 (by omega)⟩
end Go.Proofs.YtdidocdpjiiedaaGreatDoor
