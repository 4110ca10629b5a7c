/-
  Walks: the law's awake.
-/
import Derived.Test.YtndbnfeapdkoaaaDoorMAwk3
namespace Go.Proofs.YtndbnfeapdkoaaaDoor
open Go.RowKit

theorem keepS12 {w w' : World} (k : Kp w w') {b1 b2 b3 b4 : Nat} {x y z u : RD} (h : w.cell? ⟨b1, 0, none⟩ = some (.bool x.neg) ∧ w.cell? ⟨b1, 1, none⟩ = some (.slice x.a x.xs.length x.c) ∧ w.cell? ⟨b1, 2, none⟩ = some (.int .i64 x.e) ∧ w.cell? ⟨b2, 0, none⟩ = some (.bool y.neg) ∧ w.cell? ⟨b2, 1, none⟩ = some (.slice y.a y.xs.length y.c) ∧ w.cell? ⟨b2, 2, none⟩ = some (.int .i64 y.e) ∧ w.cell? ⟨b3, 0, none⟩ = some (.bool z.neg) ∧ w.cell? ⟨b3, 1, none⟩ = some (.slice z.a z.xs.length z.c) ∧ w.cell? ⟨b3, 2, none⟩ = some (.int .i64 z.e) ∧ w.cell? ⟨b4, 0, none⟩ = some (.bool u.neg) ∧ w.cell? ⟨b4, 1, none⟩ = some (.slice u.a u.xs.length u.c) ∧ w.cell? ⟨b4, 2, none⟩ = some (.int .i64 u.e)) : w'.cell? ⟨b1, 0, none⟩ = some (.bool x.neg) ∧ w'.cell? ⟨b1, 1, none⟩ = some (.slice x.a x.xs.length x.c) ∧ w'.cell? ⟨b1, 2, none⟩ = some (.int .i64 x.e) ∧ w'.cell? ⟨b2, 0, none⟩ = some (.bool y.neg) ∧ w'.cell? ⟨b2, 1, none⟩ = some (.slice y.a y.xs.length y.c) ∧ w'.cell? ⟨b2, 2, none⟩ = some (.int .i64 y.e) ∧ w'.cell? ⟨b3, 0, none⟩ = some (.bool z.neg) ∧ w'.cell? ⟨b3, 1, none⟩ = some (.slice z.a z.xs.length z.c) ∧ w'.cell? ⟨b3, 2, none⟩ = some (.int .i64 z.e) ∧ w'.cell? ⟨b4, 0, none⟩ = some (.bool u.neg) ∧ w'.cell? ⟨b4, 1, none⟩ = some (.slice u.a u.xs.length u.c) ∧ w'.cell? ⟨b4, 2, none⟩ = some (.int .i64 u.e) := by
  obtain ⟨a0, a1, a2, c0, c1, c2, d0, d1, d2, e0, e1, e2⟩ := h
  exact ⟨k.cell a0, k.cell a1, k.cell a2, k.cell c0, k.cell c1, k.cell c2, k.cell d0, k.cell d1, k.cell d2, k.cell e0, k.cell e1, k.cell e2⟩
set_option maxRecDepth 100000 in
set_option maxHeartbeats 16000000 in
theorem awake3_ok (w : World) (hT : Tab w) :
    Calls Tryd.prog 5 #[] w fun e w' => e = .returned (.bool true) ∧ Kp w w' := by
  go_enter Tryd.func5, Tryd.ntmps5
  go_wp2_with fail
  refine (num_ok 1 0 _ (by decide) (by decide) (by decide) (by decide)).mono ?_
  rintro e w1 ⟨n1, rfl, on1, dn1, k1⟩
  go_wp2_with fail
  refine (num_ok 3 0 _ (by decide) (by decide) (by decide) (by decide)).mono ?_
  rintro e w2 ⟨n2, rfl, on2, dn2, k2⟩
  have h2 := k1.trans k2
  go_wp2_with fail
  refine (rDivDown_of n1 n2 8 _ _ _ (fun W k => third_of n1 n2 false _ W ((on1.kp k2).kp k) (on2.kp k) dn1 dn2 (hT.kp (h2.trans k)) third_down)).mono ?_
  rintro e w3 ⟨z1, rfl, r1, d1, v1, k3⟩
  have oz1 : z1.ok w3 := ⟨r1, v1 (dyL_ok (by decide) (by decide) (by decide) (by decide))⟩
  have ka := (Kp.refl w3).alloc (.cells #[.bool z1.neg, .slice z1.a z1.xs.length z1.c, .int .i64 z1.e] 24)
  have h3 := (h2.trans k3).trans ka
  have oz1a := oz1.kp ka
  clear k1 k2 k3 h2 r1 v1 on1 on2 dn1 dn2
  go_wp2_with fail
  generalize hW : w3.alloc _ = A1 at *
  have hZ1 : A1.cell? ⟨w3.heap.size, 0, none⟩ = some (.bool z1.neg) ∧ A1.cell? ⟨w3.heap.size, 1, none⟩ = some (.slice z1.a z1.xs.length z1.c) ∧ A1.cell? ⟨w3.heap.size, 2, none⟩ = some (.int .i64 z1.e) := by rw [← hW]; simp
  clear hW ka oz1
  refine (num_ok 1 0 _ (by decide) (by decide) (by decide) (by decide)).mono ?_
  rintro e w4 ⟨n4, rfl, on4, dn4, k4⟩
  go_wp2_with fail
  refine (num_ok 3 0 _ (by decide) (by decide) (by decide) (by decide)).mono ?_
  rintro e w5 ⟨n5, rfl, on5, dn5, k5⟩
  have h5 := (h3.trans k4).trans k5
  have kk := k4.trans k5
  go_wp2_with fail
  refine (rDivUp_of n4 n5 8 _ _ _ (fun W k => third_of n4 n5 true _ W ((on4.kp k5).kp k) (on5.kp k) dn4 dn5 (hT.kp (h5.trans k)) third_up)).mono ?_
  rintro e w6 ⟨z2, rfl, r2, d2, v2, k6⟩
  have oz2 : z2.ok w6 := ⟨r2, v2 (dyL_ok (by decide) (by decide) (by decide) (by decide))⟩
  have ka := (Kp.refl w6).alloc (.cells #[.bool z2.neg, .slice z2.a z2.xs.length z2.c, .int .i64 z2.e] 24)
  have h6 := (h5.trans k6).trans ka
  have oz2a := oz2.kp ka
  have oz1b := oz1a.kp ((kk.trans k6).trans ka)
  have hZ1b := keep3 ((kk.trans k6).trans ka) hZ1
  clear k4 k5 k6 h3 h5 kk r2 v2 on4 on5 dn4 dn5 oz1a hZ1
  go_wp2_with fail
  generalize hW : w6.alloc _ = A2 at *
  have hZ2 : A2.cell? ⟨w6.heap.size, 0, none⟩ = some (.bool z2.neg) ∧ A2.cell? ⟨w6.heap.size, 1, none⟩ = some (.slice z2.a z2.xs.length z2.c) ∧ A2.cell? ⟨w6.heap.size, 2, none⟩ = some (.int .i64 z2.e) := by rw [← hW]; simp
  clear hW ka oz2
  refine (num_ok 1 1 _ (by decide) (by decide) (by decide) (by decide)).mono ?_
  rintro e w7 ⟨n7, rfl, on7, dn7, k7⟩
  have h7 := h6.trans k7
  go_wp2_with fail
  refine (rSqrtDown_of n7 8 _ _ _ (fun W k => root_of n7 W (on7.kp k) dn7 (hT.kp (h7.trans k)))).mono ?_
  rintro e w8 ⟨z3, rfl, r3, d3, v3, k8⟩
  have oz3 : z3.ok w8 := ⟨r3, v3 (dyL_ok (by decide) (by decide) (by decide) (by decide))⟩
  have ka := (Kp.refl w8).alloc (.cells #[.bool z3.neg, .slice z3.a z3.xs.length z3.c, .int .i64 z3.e] 24)
  have h8 := (h7.trans k8).trans ka
  have oz3a := oz3.kp ka
  have oz1c := oz1b.kp ((k7.trans k8).trans ka)
  have oz2c := oz2a.kp ((k7.trans k8).trans ka)
  have hZ1c := keep3 ((k7.trans k8).trans ka) hZ1b
  have hZ2c := keep3 ((k7.trans k8).trans ka) hZ2
  clear k7 k8 h6 h7 r3 v3 on7 dn7 oz1b oz2a hZ1b hZ2
  go_upto_region 4 with fail
  generalize hW : w8.alloc _ = A3 at *
  have hZ3 : A3.cell? ⟨w8.heap.size, 0, none⟩ = some (.bool z3.neg) ∧ A3.cell? ⟨w8.heap.size, 1, none⟩ = some (.slice z3.a z3.xs.length z3.c) ∧ A3.cell? ⟨w8.heap.size, 2, none⟩ = some (.int .i64 z3.e) := by rw [← hW]; simp
  clear hW ka oz3
  go_cut [7, 8] from 9 (fun s t wx => ∃ (b : Nat) (z4 : RD), s = .pointer (some ⟨b, 0, none⟩) ∧ t = .int .i64 0 ∧ z4.ok wx ∧ z4.dy = dyL 1 8 ∧ (wx.cell? ⟨b, 0, none⟩ = some (.bool z4.neg) ∧ wx.cell? ⟨b, 1, none⟩ = some (.slice z4.a z4.xs.length z4.c) ∧ wx.cell? ⟨b, 2, none⟩ = some (.int .i64 z4.e)) ∧ Kp A3 wx)
  case first =>
    go_wp2_with fail
    refine (num_ok 257 0 _ (by decide) (by decide) (by decide) (by decide)).mono ?_
    rintro e w9 ⟨n9, rfl, on9, dn9, k9⟩
    have h9 := h8.trans k9
    have HN := Near_any n9 8 w9 on9.1 (hT.kp h9)
    rw [near257 on9 dn9] at HN
    replace HN : Calls Tryd.prog 20 #[.agg #[.bool n9.neg, .slice n9.a n9.xs.length n9.c, .int .i64 n9.e], .int .i64 8] w9 (NumE w9 (dyL 1 8) 0) := HN
    have HN' := Lib.hid HN
    clear HN
    go_wp2_with fail
    refine HN'.out.mono ?_
    rintro e w10 ⟨z4, rfl, r4, d4, v4, k10⟩
    have oz4 : z4.ok w10 := ⟨r4, v4 (dyL_ok (by decide) (by decide) (by decide) (by decide))⟩
    have ka := (Kp.refl w10).alloc (.cells #[.bool z4.neg, .slice z4.a z4.xs.length z4.c, .int .i64 z4.e] 24)
    have oz4d := oz4.kp ka
    have hkE := (k9.trans k10).trans ka
    clear HN'
    go_wp2_with fail
    generalize hW : w10.alloc _ = A4 at *
    have hZ4 : A4.cell? ⟨w10.heap.size, 0, none⟩ = some (.bool z4.neg) ∧ A4.cell? ⟨w10.heap.size, 1, none⟩ = some (.slice z4.a z4.xs.length z4.c) ∧ A4.cell? ⟨w10.heap.size, 2, none⟩ = some (.int .i64 z4.e) := by rw [← hW]; simp
    clear hW
    go_meet
    case rel => exact ⟨w10.heap.size, z4, rfl, rfl, oz4d, d4, hZ4, hkE⟩
  case rest =>
    obtain ⟨b4, z4, rfl, rfl, oz4d, d4, hZ4, hkE⟩ := hcut
    obtain ⟨A4, hA4⟩ : ∃ A4 : World, A4 = wc := ⟨_, rfl⟩
    subst hA4
    have h10 := h8.trans hkE
    have oz1d := oz1c.kp hkE
    have oz2d := oz2c.kp hkE
    have oz3d := oz3a.kp hkE
    have hZ1d := keep3 hkE hZ1c
    have hZ2d := keep3 hkE hZ2c
    have hZ3d := keep3 hkE hZ3
    clear h8 oz1c oz2c oz3a hZ1c hZ2c hZ3 hkE
    go_wp2_with fail
    have hA := h10.drew
    have p1 := oz1d.drew
    have p2 := oz2d.drew
    have p3 := oz3d.drew
    have p4 := oz4d.drew
    have D1 := Lib.hid d1
    have D2 := Lib.hid d2
    have D3 := Lib.hid d3
    have D4 := Lib.hid d4
    clear d1 d2 d3 d4
    have hSS := keepS12 (Kp.refl A4).drew ⟨hZ1d.1, hZ1d.2.1, hZ1d.2.2, hZ2d.1, hZ2d.2.1, hZ2d.2.2, hZ3d.1, hZ3d.2.1, hZ3d.2.2, hZ4⟩
    clear h10 oz1d oz2d oz3d oz4d hZ1d hZ2d hZ3d hZ4
    generalize w3.heap.size = b1 at *
    generalize w6.heap.size = b2 at *
    generalize w8.heap.size = b3 at *
    have HSS := Lib.hid hSS
    have P1 := Lib.hid p1
    have R1 := Lib.hid p1.1
    have P2 := Lib.hid p2
    have R2 := Lib.hid p2.1
    have P3 := Lib.hid p3
    have R3 := Lib.hid p3.1
    have P4 := Lib.hid p4
    have R4 := Lib.hid p4.1
    have HT := Lib.hid hT
    have HA := Lib.hid hA
    clear hSS p1 p2 p3 p4 hT hA
    go_region_held3 (fun w' => w'.cell? ⟨b1, 0, none⟩ = some (.bool z1.neg) ∧ w'.cell? ⟨b1, 1, none⟩ = some (.slice z1.a z1.xs.length z1.c) ∧ w'.cell? ⟨b1, 2, none⟩ = some (.int .i64 z1.e) ∧ w'.cell? ⟨b2, 0, none⟩ = some (.bool z2.neg) ∧ w'.cell? ⟨b2, 1, none⟩ = some (.slice z2.a z2.xs.length z2.c) ∧ w'.cell? ⟨b2, 2, none⟩ = some (.int .i64 z2.e) ∧ w'.cell? ⟨b3, 0, none⟩ = some (.bool z3.neg) ∧ w'.cell? ⟨b3, 1, none⟩ = some (.slice z3.a z3.xs.length z3.c) ∧ w'.cell? ⟨b3, 2, none⟩ = some (.int .i64 z3.e) ∧ w'.cell? ⟨b4, 0, none⟩ = some (.bool z4.neg) ∧ w'.cell? ⟨b4, 1, none⟩ = some (.slice z4.a z4.xs.length z4.c) ∧ w'.cell? ⟨b4, 2, none⟩ = some (.int .i64 z4.e)) (first | with_reducible exact HSS.out | with_reducible assumption | with_reducible exact keepS12 (by assumption) (by assumption))
      (first
        | (go_at_call_of 19 (Value.int .u32 85); refine (num_ok 85 (-8) _ (by decide) (by decide) (by decide) (by decide)).mono ?_; rintro e vv1 ⟨m1, rfl, ⟨r1, u1⟩, e1, j1⟩)
        | (go_at_call 14; (with_reducible refine (same_any z1 m1 _ (R1.out.kp j1) r1).mono ?_); rw [sameR_dy P1.out ⟨r1, u1⟩ (D1.out.trans e1.symm)]; rintro e vv2 ⟨rfl, j2⟩)
        | (go_at_call_of 19 (Value.int .u32 171); refine (num_ok 171 (-9) _ (by decide) (by decide) (by decide) (by decide)).mono ?_; rintro e vv3 ⟨m2, rfl, ⟨r2, u2⟩, e2, j3⟩)
        | (go_at_call 14; (with_reducible refine (same_any z2 m2 _ (((R2.out.kp j1).kp j2).kp j3) r2).mono ?_); rw [sameR_dy P2.out ⟨r2, u2⟩ (D2.out.trans e2.symm)]; rintro e vv4 ⟨rfl, j4⟩)
        | (go_at_call_of 19 (Value.int .u32 181); refine (num_ok 181 (-7) _ (by decide) (by decide) (by decide) (by decide)).mono ?_; rintro e vv5 ⟨m3, rfl, ⟨r3, u3⟩, e3, j5⟩)
        | (go_at_call 14; (with_reducible refine (same_any z3 m3 _ (((((R3.out.kp j1).kp j2).kp j3).kp j4).kp j5) r3).mono ?_); rw [sameR_dy P3.out ⟨r3, u3⟩ (D3.out.trans e3.symm)]; rintro e vv6 ⟨rfl, j6⟩)
        | (go_at_call_of 19 (Value.int .u32 1); refine (num_ok 1 8 _ (by decide) (by decide) (by decide) (by decide)).mono ?_; rintro e vv7 ⟨m4, rfl, ⟨r4, u4⟩, e4, j7⟩)
        | (go_at_call 14; (with_reducible refine (same_any z4 m4 _ (((((((R4.out.kp j1).kp j2).kp j3).kp j4).kp j5).kp j6).kp j7) r4).mono ?_); rw [sameR_dy P4.out ⟨r4, u4⟩ (D4.out.trans e4.symm)]; rintro e vv8 ⟨rfl, j8⟩)
        | fail)
    have hE := (((((((HA.out.trans j1).trans j2).trans j3).trans j4).trans j5).trans j6).trans j7).trans j8
    go_wp2_with fail
    go_ret
    exact ⟨rfl, hE⟩
end Go.Proofs.YtndbnfeapdkoaaaDoor
