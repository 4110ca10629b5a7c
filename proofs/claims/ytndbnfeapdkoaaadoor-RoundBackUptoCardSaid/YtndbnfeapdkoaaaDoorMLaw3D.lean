/-
  Walks: the law RoundQuotients.
-/
import Derived.Test.YtndbnfeapdkoaaaDoorMR3D
import Derived.Test.YtndbnfeapdkoaaaDoorMR3C
namespace Go.Proofs.YtndbnfeapdkoaaaDoor
open Go.RowKit

theorem divB_ok (x y : RD) (p : Int) (up : Bool) : (divB x y p up).1.ok := by
  unfold divB
  split
  · next h0 =>
    obtain ⟨_, h1, h2⟩ := fltB_zero.1 h0
    split
    · exact Dy.ok_zero
    · split
      · exact Dy.ok_zero
      · exact rndS_ok (by omega) (by omega)
  · exact Dy.ok_zero
theorem divB_zero (x y : RD) (p : Int) (up : Bool) (h : (divB x y p up).2 ≠ 0) : (divB x y p up).1 = .zero := by
  unfold divB at h ⊢
  split
  · next h0 =>
    rw [if_pos h0] at h
    split
    · rfl
    · next h1 =>
      rw [if_neg h1] at h
      split
      · rfl
      · next h2 =>
        rw [if_neg h2] at h
        cases hr : quoR (x.neg != y.neg) (val x.xs) (val y.xs) (x.e - y.e) p.toNat up (quoK x y p 2) with
        | none => rfl
        | some d => rw [hr] at h; exact absurd rfl h
  · rfl
set_option maxRecDepth 100000 in
set_option maxHeartbeats 16000000 in
theorem Quotients_ok (x y : RD) (p : Int) (w : World) (hx : x.rd w) (hy : y.rd w) (hT : Tab w) :
    Calls Tryd.prog 3 #[.agg #[.bool x.neg, .slice x.a x.xs.length x.c, .int .i64 x.e], .agg #[.bool y.neg, .slice y.a y.xs.length y.c, .int .i64 y.e], .int .i64 p] w fun e w' => e = .returned (.bool true) ∧ Kp w w' := by
  go_enter Tryd.func3, Tryd.ntmps3
  go_upto_region 1 with fail
  generalize hW : ((w.alloc _).alloc _) = W at *
  have hk : Kp w W := hW ▸ ((Kp.refl w).alloc _).alloc _
  have hS : W.cell? ⟨w.heap.size, 0, none⟩ = some (.bool x.neg) ∧ W.cell? ⟨w.heap.size, 1, none⟩ = some (.slice x.a x.xs.length x.c) ∧ W.cell? ⟨w.heap.size, 2, none⟩ = some (.int .i64 x.e) ∧ W.cell? ⟨w.heap.size + 1, 0, none⟩ = some (.bool y.neg) ∧ W.cell? ⟨w.heap.size + 1, 1, none⟩ = some (.slice y.a y.xs.length y.c) ∧ W.cell? ⟨w.heap.size + 1, 2, none⟩ = some (.int .i64 y.e) := by rw [← hW]; exact keep6 (Kp.refl _) (by simp)
  clear hW
  go_cut [16] from 7 (fun s wx => s = .bool false ∧ Kp W wx)
  case first =>
    go_wp2_with fail
    refine (awake3_ok _ (hT.kp hk)).mono ?_
    rintro e w1 ⟨rfl, k1⟩
    go_wp2_with fail
    go_meet
    case rel => exact ⟨rfl, k1⟩
  case rest =>
    obtain ⟨rfl, k1⟩ := hcut
    have hS1 := keepRR k1 hS
    have h1 := hk.trans k1
    clear hk k1 hS
    obtain ⟨W1, hW1⟩ : ∃ W1 : World, W1 = wc := ⟨_, rfl⟩
    subst hW1
    obtain ⟨s0, s1, s2, t0, t1, t2⟩ := id hS1
    by_cases hg : (60 : Int) < (x.xs.length : Int)
    · go_wp2_with fail
      go_ret
      exact ⟨rfl, h1⟩
    by_cases hg2 : (60 : Int) < (y.xs.length : Int)
    · go_wp2_with fail
      go_ret
      exact ⟨rfl, h1⟩
    have hS2 := hS1
    have h2 := h1
    clear hS1 h1
    · go_wp2_with fail
      clear s0 s1 s2 t0 t1 t2
      refine (rDivDown_of x y p _ _ _ (fun W k => div_rd x y p false W (hx.kp (h2.trans k)) (hy.kp (h2.trans k)) (hT.kp (h2.trans k)))).mono ?_
      rintro e w3 ⟨z1, rfl, rz, dz, vz, k3⟩
      have ka := (Kp.refl w3).alloc (.cells #[.bool z1.neg, .slice z1.a z1.xs.length z1.c, .int .i64 z1.e] 24)
      have k3a := k3.trans ka
      have o1 := Lib.hid ((show z1.ok w3 from ⟨rz, vz (divB_ok x y p false)⟩).kp ka)
      have D1 := Lib.hid dz
      have hS3 := keepRR k3a hS2
      have h3 := h2.trans k3a
      clear hS2 h2 k3 k3a rz dz vz
      obtain ⟨s0, s1, s2, t0, t1, t2⟩ := id hS3
      go_wp2_with fail
      generalize hA3 : w3.alloc _ = A3 at *
      have hZ1 : A3.cell? ⟨w3.heap.size, 0, none⟩ = some (.bool z1.neg) ∧ A3.cell? ⟨w3.heap.size, 1, none⟩ = some (.slice z1.a z1.xs.length z1.c) ∧ A3.cell? ⟨w3.heap.size, 2, none⟩ = some (.int .i64 z1.e) := by rw [← hA3]; simp
      clear hA3 ka s0 s1 s2 t0 t1 t2
      refine (r3div_any x y p false _ (hx.kp h3) (hy.kp h3)).mono ?_
      rintro e w4 ⟨z2, rfl, rz, dz, vz, k4⟩
      have ka := (Kp.refl w4).alloc (.cells #[.bool z2.neg, .slice z2.a z2.xs.length z2.c, .int .i64 z2.e] 24)
      have k4a := k4.trans ka
      have o2 := Lib.hid ((show z2.ok w4 from ⟨rz, vz (divB_ok x y p false)⟩).kp ka)
      have D2 := Lib.hid dz
      have o1b := Lib.hid (o1.out.kp k4a)
      have hS4 := keepRR k4a hS3
      have hZ1b := keep3 k4a hZ1
      have h4 := h3.trans k4a
      clear hS3 hZ1 h3 k4 k4a rz dz vz o1
      obtain ⟨s0, s1, s2, t0, t1, t2⟩ := id hS4
      go_wp2_with fail
      generalize hA4 : w4.alloc _ = A4 at *
      have hZ2 : A4.cell? ⟨w4.heap.size, 0, none⟩ = some (.bool z2.neg) ∧ A4.cell? ⟨w4.heap.size, 1, none⟩ = some (.slice z2.a z2.xs.length z2.c) ∧ A4.cell? ⟨w4.heap.size, 2, none⟩ = some (.int .i64 z2.e) := by rw [← hA4]; simp
      clear hA4 ka s0 s1 s2 t0 t1 t2
      refine (rDivUp_of x y p _ _ _ (fun W k => div_rd x y p true W (hx.kp (h4.trans k)) (hy.kp (h4.trans k)) (hT.kp (h4.trans k)))).mono ?_
      rintro e w5 ⟨z3, rfl, rz, dz, vz, k5⟩
      have ka := (Kp.refl w5).alloc (.cells #[.bool z3.neg, .slice z3.a z3.xs.length z3.c, .int .i64 z3.e] 24)
      have k5a := k5.trans ka
      have o3 := Lib.hid ((show z3.ok w5 from ⟨rz, vz (divB_ok x y p true)⟩).kp ka)
      have D3 := Lib.hid dz
      have o1c := Lib.hid (o1b.out.kp k5a)
      have o2c := Lib.hid (o2.out.kp k5a)
      have hS5 := keepRR k5a hS4
      have hZ1c := keep3 k5a hZ1b
      have hZ2c := keep3 k5a hZ2
      have h5 := h4.trans k5a
      clear hS4 hZ1b hZ2 h4 k5 k5a rz dz vz o1b o2
      obtain ⟨s0, s1, s2, t0, t1, t2⟩ := id hS5
      go_wp2_with fail
      generalize hA5 : w5.alloc _ = A5 at *
      have hZ3 : A5.cell? ⟨w5.heap.size, 0, none⟩ = some (.bool z3.neg) ∧ A5.cell? ⟨w5.heap.size, 1, none⟩ = some (.slice z3.a z3.xs.length z3.c) ∧ A5.cell? ⟨w5.heap.size, 2, none⟩ = some (.int .i64 z3.e) := by rw [← hA5]; simp
      clear hA5 ka s0 s1 s2 t0 t1 t2
      refine (r3div_any x y p true _ (hx.kp h5) (hy.kp h5)).mono ?_
      rintro e w6 ⟨z4, rfl, rz, dz, vz, k6⟩
      have ka := (Kp.refl w6).alloc (.cells #[.bool z4.neg, .slice z4.a z4.xs.length z4.c, .int .i64 z4.e] 24)
      have k6a := k6.trans ka
      have o4 := Lib.hid ((show z4.ok w6 from ⟨rz, vz (divB_ok x y p true)⟩).kp ka)
      have D4 := Lib.hid dz
      have o1d := Lib.hid (o1c.out.kp k6a)
      have o2d := Lib.hid (o2c.out.kp k6a)
      have o3d := Lib.hid (o3.out.kp k6a)
      obtain ⟨a0, a1, a2⟩ := keep3 k6a hZ1c
      obtain ⟨b0, b1, b2⟩ := keep3 k6a hZ2c
      have hZ3d := keep3 k6a hZ3
      have h6 := h5.trans k6a
      clear hS5 hZ1c hZ2c hZ3 h5 k6 k6a rz dz vz o1c o2c o3
      go_upto_region 9 with fail
      generalize hA6 : w6.alloc _ = A6 at *
      have hZ4 : A6.cell? ⟨w6.heap.size, 0, none⟩ = some (.bool z4.neg) ∧ A6.cell? ⟨w6.heap.size, 1, none⟩ = some (.slice z4.a z4.xs.length z4.c) ∧ A6.cell? ⟨w6.heap.size, 2, none⟩ = some (.int .i64 z4.e) := by rw [← hA6]; simp
      clear hA6 ka
      have E1 := Lib.hid (is_ok z1 z2 (divB x y p false).2 A6 o1d.out o2d.out (D1.out.trans D2.out.symm) (fun h => D1.out.trans (divB_zero x y p false h)))
      go_wp2_with fail
      refine E1.out.mono ?_
      rintro e w7 ⟨rfl, k7⟩
      have E2 := Lib.hid (is_ok z3 z4 (divB x y p true).2 w7 (o3d.out.kp k7) (o4.out.kp k7) (D3.out.trans D4.out.symm) (fun h => D3.out.trans (divB_zero x y p true h)))
      obtain ⟨c0, c1, c2⟩ := keep3 k7 hZ3d
      obtain ⟨d0, d1, d2⟩ := keep3 k7 hZ4
      clear a0 a1 a2 b0 b1 b2 hZ3d hZ4
      go_wp2_with fail
      refine E2.out.mono ?_
      rintro e w8 ⟨rfl, k8⟩
      go_wp2_with fail
      go_ret
      exact ⟨rfl, (h6.trans k7).trans k8⟩
end Go.Proofs.YtndbnfeapdkoaaaDoor
