/-
  Walks: the fifth reference's Neg, Sub.
  Walks: the fifth reference's least, most, Mag.
-/
import Derived.Test.YtdidocdpjiiedaaGreatDoorMR5C
import Derived.Test.YtdidocdpjiiedaaGreatDoorMNum7
section
namespace Go.Proofs.YtdidocdpjiiedaaGreatDoor
open Go.RowKit

set_option maxRecDepth 100000 in
set_option maxHeartbeats 8000000 in
theorem r5neg_any (x : RI) (w : World) (hx : x.rd w) (vx : x.vl = true) :
    Calls Tryz.prog 126 #[.agg #[.bool x.lo.neg, .slice x.lo.a x.lo.xs.length x.lo.c, .int .i64 x.lo.e, .bool x.hi.neg, .slice x.hi.a x.hi.xs.length x.hi.c, .int .i64 x.hi.e, .bool x.all]] w (IvOut w x.pl.neg) := by
  go_enter Tryz.func126, Tryz.ntmps126
  go_wp2_with fail
  generalize hW : ((w.alloc _).alloc _) = W at *
  have hk : Kp w W := by rw [← hW]; exact ((Kp.refl w).alloc _).alloc _
  have hS : W.cell? ⟨w.heap.size, 0, none⟩ = some (.bool x.lo.neg) ∧ W.cell? ⟨w.heap.size, 1, none⟩ = some (.slice x.lo.a x.lo.xs.length x.lo.c) ∧ W.cell? ⟨w.heap.size, 2, none⟩ = some (.int .i64 x.lo.e) ∧ W.cell? ⟨w.heap.size, 3, none⟩ = some (.bool x.hi.neg) ∧ W.cell? ⟨w.heap.size, 4, none⟩ = some (.slice x.hi.a x.hi.xs.length x.hi.c) ∧ W.cell? ⟨w.heap.size, 5, none⟩ = some (.int .i64 x.hi.e) ∧ W.cell? ⟨w.heap.size, 6, none⟩ = some (.bool x.all) := by rw [← hW]; simp
  have hV : Var7 W (w.heap.size + 1) := by rw [← hW]; exact Var7.new1 _ _ _
  clear hW
  go_fit (r5known_any x _ (hx.kp hk))
  rintro e w1 ⟨rfl, hk1⟩
  have hS1 := keep7 hk1 hS
  have hV1 := hV.kp hk1
  have hk2 := (hk.trans hk1)
  have hx1 := hx.kp hk2
  clear hS hV hk hk1
  cases ha : x.all with
  | true =>
    have hg : goodI x = false := by rw [goodI_vl vx, ha]; rfl
    have HP := Lib.hid (show x.pl.neg = .whole by unfold PI.neg; rw [if_pos (by exact ha)])
    rw [hg]
    clear hg ha hS1
    go_wp2_with fail
    go_fit (r5Whole_any _)
    rintro e w2 ⟨rfl, hk3⟩
    have hk4 := hk2.trans hk3
    obtain ⟨⟨q0, q1, q2, q3, q4, q5, q6⟩, f0, f1, f2, f3, f4, f5, f6⟩ := hV1.kp hk3
    go_wp2_with fail
    generalize hW9 : ((((((w2.setCell _ _).setCell _ _).setCell _ _).setCell _ _).setCell _ _).setCell _ _).setCell _ _ = W9
    obtain ⟨⟨s0, s1, s2, s3, s4, s5, s6⟩, hU⟩ := stored7 (show Box7 w2 _ _ _ _ _ _ _ _ from ⟨q0, q1, q2, q3, q4, q5, q6⟩) (fun _ h => by cases h) (fun _ h => by cases h) (fun _ h => by cases h) (fun _ h => by cases h) (fun _ h => by cases h) (fun _ h => by cases h) (fun _ h => by cases h) _ _ _ _ _ _ _ hW9
    clear hW9 q0 q1 q2 q3 q4 q5 q6 f0 f1 f2 f3 f4 f5 f6
    refine bodyPost_ret (v := .agg #[.bool false, .slice none 0 0, .int .i64 0, .bool false, .slice none 0 0, .int .i64 0, .bool true]) (by simp [results, Tryz.results126, go_sem, s0, s1, s2, s3, s4, s5, s6]) rfl ?_
    rw [HP.out]
    exact ⟨wholeR, rfl, wholeR_rd _, rfl, rfl, hU.2.2.1 _ hk4 (by omega)⟩
  | false =>
    have ox := ok_of hx1 vx ha
    have hg : goodI x = true := (goodI_ok ox.1).2 ox
    have HP := Lib.hid (show x.pl.neg = ⟨x.hi.dy.opp, x.lo.dy.opp, false⟩ by unfold PI.neg; rw [if_neg (by show ¬ x.all = true; rw [ha]; decide)]; rfl)
    rw [hg]
    clear hg
    obtain ⟨hB, hF⟩ := hV1
    have kd := (Kp.refl w1).drew
    have hB2 := hB.kp kd
    have hF2 := hF.kp hB kd
    have Ox := Lib.hid (ox.kp kd)
    have hk3 := hk2.trans kd
    have hS4 := keep7 kd hS1
    clear hB hF hS1 kd hk2 ox hx1 ha
    go_wp2_with fail
    go_region_held3 (fun w' => w'.cell? ⟨w.heap.size, 0, none⟩ = some (.bool x.lo.neg) ∧ w'.cell? ⟨w.heap.size, 1, none⟩ = some (.slice x.lo.a x.lo.xs.length x.lo.c) ∧ w'.cell? ⟨w.heap.size, 2, none⟩ = some (.int .i64 x.lo.e) ∧ w'.cell? ⟨w.heap.size, 3, none⟩ = some (.bool x.hi.neg) ∧ w'.cell? ⟨w.heap.size, 4, none⟩ = some (.slice x.hi.a x.hi.xs.length x.hi.c) ∧ w'.cell? ⟨w.heap.size, 5, none⟩ = some (.int .i64 x.hi.e) ∧ w'.cell? ⟨w.heap.size, 6, none⟩ = some (.bool x.all)) (first | with_reducible assumption | with_reducible exact keep7 (by assumption) (by assumption) | with_reducible exact set7one (by omega) (by assumption))
      (first
        | (go_at_call 115; go_fit (r2Neg_ok x.hi _ Ox.out.hi); rintro e w4 ⟨z1, rfl, r1, d1, v1, hk4⟩)
        | (go_at_call 115; go_fit (r2Neg_ok x.lo _ (Ox.out.lo.kp hk4)); rintro e w5 ⟨z2, rfl, r2, d2, v2, hk5⟩; have hk6 := hk4.trans hk5; obtain ⟨q0, q1, q2, q3, q4, q5, q6⟩ := hB2.kp hk6; obtain ⟨f0, f1, f2, f3, f4, f5, f6⟩ := hF2.kp hB2 hk6)
        | fail)
    have hk7 := hk3.trans hk6
    have R1 := Lib.hid (r1.kp hk5)
    have R2 := Lib.hid r2
    have E1 := Lib.hid (And.intro d1 (v1 (Dy.opp_ok2 (rdok_dy Ox.out.hi))))
    have E2 := Lib.hid (And.intro d2 (v2 (Dy.opp_ok2 (rdok_dy Ox.out.lo))))
    have HL := Lib.hid (show z1.iv ≤ z2.iv by
      show z1.dy.iv ≤ z2.dy.iv
      rw [E1.out.1, E2.out.1, Dy.opp_iv, Dy.opp_iv]
      have := Ox.out.parts.2.2
      have h1 : x.lo.dy.iv ≤ x.hi.dy.iv := this
      omega)
    clear hS4 hB2 hF2 r1 r2 d1 d2 v1 v2
    go_wp2_with fail
    generalize hW9 : ((((((w5.setCell _ _).setCell _ _).setCell _ _).setCell _ _).setCell _ _).setCell _ _).setCell _ _ = W9
    obtain ⟨⟨s0, s1, s2, s3, s4, s5, s6⟩, hU⟩ := stored7 (show Box7 w5 _ _ _ _ _ _ _ _ from ⟨q0, q1, q2, q3, q4, q5, q6⟩) (fun _ h => by cases h) (fun _ h => by cases h) (fun _ h => by cases h) (fun _ h => by cases h) (fun _ h => by cases h) (fun _ h => by cases h) (fun _ h => by cases h) _ _ _ _ _ _ _ hW9
    clear hW9 q0 q1 q2 q3 q4 q5 q6 f0 f1 f2 f3 f4 f5 f6
    refine bodyPost_ret (v := .agg #[.bool (RI.mk z1 z2 false).lo.neg, .slice (RI.mk z1 z2 false).lo.a (RI.mk z1 z2 false).lo.xs.length (RI.mk z1 z2 false).lo.c, .int .i64 (RI.mk z1 z2 false).lo.e, .bool (RI.mk z1 z2 false).hi.neg, .slice (RI.mk z1 z2 false).hi.a (RI.mk z1 z2 false).hi.xs.length (RI.mk z1 z2 false).hi.c, .int .i64 (RI.mk z1 z2 false).hi.e, .bool (RI.mk z1 z2 false).all]) (by simp [results, Tryz.results126, go_sem, s0, s1, s2, s3, s4, s5, s6]) rfl ?_
    rw [HP.out]
    exact ⟨⟨z1, z2, false⟩, rfl, hU.rdI ⟨R1.out, R2.out⟩, by unfold RI.pl; rw [E1.out.1, E2.out.1], vl_mk2 E1.out.2 E2.out.2 HL.out, hU.2.2.1 _ hk7 (by omega)⟩
set_option maxRecDepth 100000 in
set_option maxHeartbeats 8000000 in
theorem r5sub_any (x y : RI) (p : Nat) (w : World) (hx : x.rd w) (hy : y.rd w) (vx : x.vl = true) (vy : y.vl = true) (h0 : 8 ≤ p) (h1 : p ≤ 512) (hT : Tab w) :
    Calls Tryz.prog 78 #[.agg #[.bool x.lo.neg, .slice x.lo.a x.lo.xs.length x.lo.c, .int .i64 x.lo.e, .bool x.hi.neg, .slice x.hi.a x.hi.xs.length x.hi.c, .int .i64 x.hi.e, .bool x.all], .agg #[.bool y.lo.neg, .slice y.lo.a y.lo.xs.length y.lo.c, .int .i64 y.lo.e, .bool y.hi.neg, .slice y.hi.a y.hi.xs.length y.hi.c, .int .i64 y.hi.e, .bool y.all], .int .i64 p] w (IvOut w (pSub x.pl y.pl p)) := by
  go_enter Tryz.func78, Tryz.ntmps78
  go_wp2_with fail
  generalize hW : (((w.alloc _).alloc _).alloc _) = W at *
  have hk : Kp w W := hW ▸ (((Kp.refl w).alloc _).alloc _).alloc _
  have hS : (W.cell? ⟨w.heap.size, 0, none⟩ = some (.bool x.lo.neg) ∧ W.cell? ⟨w.heap.size, 1, none⟩ = some (.slice x.lo.a x.lo.xs.length x.lo.c) ∧ W.cell? ⟨w.heap.size, 2, none⟩ = some (.int .i64 x.lo.e) ∧ W.cell? ⟨w.heap.size, 3, none⟩ = some (.bool x.hi.neg) ∧ W.cell? ⟨w.heap.size, 4, none⟩ = some (.slice x.hi.a x.hi.xs.length x.hi.c) ∧ W.cell? ⟨w.heap.size, 5, none⟩ = some (.int .i64 x.hi.e) ∧ W.cell? ⟨w.heap.size, 6, none⟩ = some (.bool x.all)) ∧ W.cell? ⟨w.heap.size + 1, 0, none⟩ = some (.bool y.lo.neg) ∧ W.cell? ⟨w.heap.size + 1, 1, none⟩ = some (.slice y.lo.a y.lo.xs.length y.lo.c) ∧ W.cell? ⟨w.heap.size + 1, 2, none⟩ = some (.int .i64 y.lo.e) ∧ W.cell? ⟨w.heap.size + 1, 3, none⟩ = some (.bool y.hi.neg) ∧ W.cell? ⟨w.heap.size + 1, 4, none⟩ = some (.slice y.hi.a y.hi.xs.length y.hi.c) ∧ W.cell? ⟨w.heap.size + 1, 5, none⟩ = some (.int .i64 y.hi.e) ∧ W.cell? ⟨w.heap.size + 1, 6, none⟩ = some (.bool y.all) := by rw [← hW]; exact keep77 ((Kp.refl _).alloc _) (by simp)
  have hV : Var7 W (w.heap.size + 1 + 1) := by rw [← hW]; exact Var7.new2 _ _ _ _
  clear hW
  obtain ⟨hB, hF⟩ := hV
  have kd := (Kp.refl W).drew
  have hB2 := hB.kp kd
  have hF2 := hF.kp hB kd
  have hk3 := hk.trans kd
  have hS4 := keep77 kd hS
  have Rx := Lib.hid (hx.kp hk3)
  have Ry := Lib.hid (hy.kp hk3)
  have HT := Lib.hid (hT.kp hk3)
  clear hB hF hS kd hk
  go_region_held3 (fun w' => (w'.cell? ⟨w.heap.size, 0, none⟩ = some (.bool x.lo.neg) ∧ w'.cell? ⟨w.heap.size, 1, none⟩ = some (.slice x.lo.a x.lo.xs.length x.lo.c) ∧ w'.cell? ⟨w.heap.size, 2, none⟩ = some (.int .i64 x.lo.e) ∧ w'.cell? ⟨w.heap.size, 3, none⟩ = some (.bool x.hi.neg) ∧ w'.cell? ⟨w.heap.size, 4, none⟩ = some (.slice x.hi.a x.hi.xs.length x.hi.c) ∧ w'.cell? ⟨w.heap.size, 5, none⟩ = some (.int .i64 x.hi.e) ∧ w'.cell? ⟨w.heap.size, 6, none⟩ = some (.bool x.all)) ∧ w'.cell? ⟨w.heap.size + 1, 0, none⟩ = some (.bool y.lo.neg) ∧ w'.cell? ⟨w.heap.size + 1, 1, none⟩ = some (.slice y.lo.a y.lo.xs.length y.lo.c) ∧ w'.cell? ⟨w.heap.size + 1, 2, none⟩ = some (.int .i64 y.lo.e) ∧ w'.cell? ⟨w.heap.size + 1, 3, none⟩ = some (.bool y.hi.neg) ∧ w'.cell? ⟨w.heap.size + 1, 4, none⟩ = some (.slice y.hi.a y.hi.xs.length y.hi.c) ∧ w'.cell? ⟨w.heap.size + 1, 5, none⟩ = some (.int .i64 y.hi.e) ∧ w'.cell? ⟨w.heap.size + 1, 6, none⟩ = some (.bool y.all)) (first | with_reducible assumption | with_reducible exact keep77 (by assumption) (by assumption) | with_reducible exact set77 (by omega) (by omega) (by assumption))
    (first
      | (go_at_call 126; go_fit (r5neg_any y _ Ry.out vy); rintro e w4 ⟨z, rfl, rz, dz, vz, hk4⟩
         have RZ := Lib.hid rz
         have DZ := Lib.hid dz
         have VZ := Lib.hid vz
         clear rz dz vz)
      | (go_at_call 79; go_fit (r5add_any x z p _ (Rx.out.kp hk4) RZ.out vx VZ.out h0 h1 (HT.out.kp hk4)); rintro e w5 ⟨u, rfl, ru, du, vu, hk5⟩; have hk6 := hk4.trans hk5; obtain ⟨q0, q1, q2, q3, q4, q5, q6⟩ := hB2.kp hk6; obtain ⟨f0, f1, f2, f3, f4, f5, f6⟩ := hF2.kp hB2 hk6)
      | fail)
  have hk7 := hk3.trans hk6
  have RU := Lib.hid ru
  have DU := Lib.hid du
  have VU := Lib.hid vu
  clear hS4 hB2 hF2 ru du vu
  go_wp2_with fail
  generalize hW9 : ((((((w5.setCell _ _).setCell _ _).setCell _ _).setCell _ _).setCell _ _).setCell _ _).setCell _ _ = W9
  obtain ⟨⟨s0, s1, s2, s3, s4, s5, s6⟩, hU⟩ := stored7 (show Box7 w5 _ _ _ _ _ _ _ _ from ⟨q0, q1, q2, q3, q4, q5, q6⟩) (fun _ h => by cases h) (fun _ h => by cases h) (fun _ h => by cases h) (fun _ h => by cases h) (fun _ h => by cases h) (fun _ h => by cases h) (fun _ h => by cases h) _ _ _ _ _ _ _ hW9
  clear hW9 q0 q1 q2 q3 q4 q5 q6 f0 f1 f2 f3 f4 f5 f6
  refine bodyPost_ret (v := .agg #[.bool u.lo.neg, .slice u.lo.a u.lo.xs.length u.lo.c, .int .i64 u.lo.e, .bool u.hi.neg, .slice u.hi.a u.hi.xs.length u.hi.c, .int .i64 u.hi.e, .bool u.all]) (by simp [results, Tryz.results78, go_sem, s0, s1, s2, s3, s4, s5, s6]) rfl ?_
  exact ⟨u, rfl, hU.rdI RU.out, by rw [DU.out, DZ.out]; rfl, VU.out, hU.2.2.1 _ hk7 (by omega)⟩
end Go.Proofs.YtdidocdpjiiedaaGreatDoor
end

section
namespace Go.Proofs.YtdidocdpjiiedaaGreatDoor
open Go.RowKit

set_option maxHeartbeats 4000000 in
theorem r5least_ok (x y : RD) (w : World) (hx : x.ok w) (hy : y.ok w) :
    Calls Tryz.prog 155 #[.agg #[.bool x.neg, .slice x.a x.xs.length x.c, .int .i64 x.e], .agg #[.bool y.neg, .slice y.a y.xs.length y.c, .int .i64 y.e]] w fun e w' => e = .returned (.agg #[.bool (lessR x y).neg, .slice (lessR x y).a (lessR x y).xs.length (lessR x y).c, .int .i64 (lessR x y).e]) ∧ Kp w w' := by
  go_enter Tryz.func155, Tryz.ntmps155
  go_wp2_with fail
  generalize hW : (((w.alloc _).alloc _).alloc _) = W at *
  have hk : Kp w W := hW ▸ (((Kp.refl w).alloc _).alloc _).alloc _
  have hS : (W.cell? ⟨w.heap.size, 0, none⟩ = some (.bool x.neg) ∧ W.cell? ⟨w.heap.size, 1, none⟩ = some (.slice x.a x.xs.length x.c) ∧ W.cell? ⟨w.heap.size, 2, none⟩ = some (.int .i64 x.e)) ∧ W.cell? ⟨w.heap.size + 1, 0, none⟩ = some (.bool y.neg) ∧ W.cell? ⟨w.heap.size + 1, 1, none⟩ = some (.slice y.a y.xs.length y.c) ∧ W.cell? ⟨w.heap.size + 1, 2, none⟩ = some (.int .i64 y.e) := by rw [← hW]; exact keep33 ((Kp.refl _).alloc _) (by simp)
  have hB : Box3 W (w.heap.size + 2) (.bool false) (.slice none 0 0) (.int .i64 0) := hW ▸ Box3.new3 _ _ _ _ _ _ _
  clear hW
  refine (r2cmp_rok x y _ (hx.kp hk) (hy.kp hk)).mono ?_
  rintro e w1 ⟨rfl, hk1⟩
  have hS1 := keep33 hk1 hS
  obtain ⟨q0, q1, q2, f0, f1, f2⟩ := hB.kp hk1
  have hk2 := hk.trans hk1
  clear hS hk hk1 hB
  by_cases hc : cmpZ x.iv y.iv ≤ 0
  · have hd := decide_eq_true hc
    have H := Lib.hid (show lessR x y = x by unfold lessR; rw [if_pos]; have := @cmpZ_gt x.iv y.iv; omega)
    clear hc
    go_wp2_with fail
    have hst := stored q0 q1 q2 (fun _ h => by cases h) (fun _ h => by cases h) (fun _ h => by cases h) (.bool x.neg) (.slice x.a x.xs.length x.c) (.int .i64 x.e)
    generalize (((w1.setCell _ _).setCell _ _).setCell _ _) = W2 at hst ⊢
    obtain ⟨s0, s1, s2, _, s4, s5, _, _⟩ := hst
    refine bodyPost_ret (v := .agg #[.bool x.neg, .slice x.a x.xs.length x.c, .int .i64 x.e]) (by simp [results, Tryz.results155, go_sem, s0, s1, s2]) rfl ?_
    rw [H.out]
    exact ⟨rfl, s5 _ hk2 (by omega)⟩
  · have hd := decide_eq_false hc
    have H := Lib.hid (show lessR x y = y by unfold lessR; rw [if_neg]; have := @cmpZ_gt x.iv y.iv; omega)
    clear hc
    go_wp2_with fail
    have hst := stored q0 q1 q2 (fun _ h => by cases h) (fun _ h => by cases h) (fun _ h => by cases h) (.bool y.neg) (.slice y.a y.xs.length y.c) (.int .i64 y.e)
    generalize (((w1.setCell _ _).setCell _ _).setCell _ _) = W2 at hst ⊢
    obtain ⟨s0, s1, s2, _, s4, s5, _, _⟩ := hst
    refine bodyPost_ret (v := .agg #[.bool y.neg, .slice y.a y.xs.length y.c, .int .i64 y.e]) (by simp [results, Tryz.results155, go_sem, s0, s1, s2]) rfl ?_
    rw [H.out]
    exact ⟨rfl, s5 _ hk2 (by omega)⟩

set_option maxHeartbeats 4000000 in
theorem r5most_ok (x y : RD) (w : World) (hx : x.ok w) (hy : y.ok w) :
    Calls Tryz.prog 114 #[.agg #[.bool x.neg, .slice x.a x.xs.length x.c, .int .i64 x.e], .agg #[.bool y.neg, .slice y.a y.xs.length y.c, .int .i64 y.e]] w fun e w' => e = .returned (.agg #[.bool (moreR x y).neg, .slice (moreR x y).a (moreR x y).xs.length (moreR x y).c, .int .i64 (moreR x y).e]) ∧ Kp w w' := by
  go_enter Tryz.func114, Tryz.ntmps114
  go_wp2_with fail
  generalize hW : (((w.alloc _).alloc _).alloc _) = W at *
  have hk : Kp w W := hW ▸ (((Kp.refl w).alloc _).alloc _).alloc _
  have hS : (W.cell? ⟨w.heap.size, 0, none⟩ = some (.bool x.neg) ∧ W.cell? ⟨w.heap.size, 1, none⟩ = some (.slice x.a x.xs.length x.c) ∧ W.cell? ⟨w.heap.size, 2, none⟩ = some (.int .i64 x.e)) ∧ W.cell? ⟨w.heap.size + 1, 0, none⟩ = some (.bool y.neg) ∧ W.cell? ⟨w.heap.size + 1, 1, none⟩ = some (.slice y.a y.xs.length y.c) ∧ W.cell? ⟨w.heap.size + 1, 2, none⟩ = some (.int .i64 y.e) := by rw [← hW]; exact keep33 ((Kp.refl _).alloc _) (by simp)
  have hB : Box3 W (w.heap.size + 2) (.bool false) (.slice none 0 0) (.int .i64 0) := hW ▸ Box3.new3 _ _ _ _ _ _ _
  clear hW
  refine (r2cmp_rok x y _ (hx.kp hk) (hy.kp hk)).mono ?_
  rintro e w1 ⟨rfl, hk1⟩
  have hS1 := keep33 hk1 hS
  obtain ⟨q0, q1, q2, f0, f1, f2⟩ := hB.kp hk1
  have hk2 := hk.trans hk1
  clear hS hk hk1 hB
  by_cases hc : 0 ≤ cmpZ x.iv y.iv
  · have hd := decide_eq_true hc
    have H := Lib.hid (show moreR x y = x by unfold moreR; rw [if_pos]; have := @cmpZ_lt x.iv y.iv; omega)
    clear hc
    go_wp2_with fail
    have hst := stored q0 q1 q2 (fun _ h => by cases h) (fun _ h => by cases h) (fun _ h => by cases h) (.bool x.neg) (.slice x.a x.xs.length x.c) (.int .i64 x.e)
    generalize (((w1.setCell _ _).setCell _ _).setCell _ _) = W2 at hst ⊢
    obtain ⟨s0, s1, s2, _, s4, s5, _, _⟩ := hst
    refine bodyPost_ret (v := .agg #[.bool x.neg, .slice x.a x.xs.length x.c, .int .i64 x.e]) (by simp [results, Tryz.results114, go_sem, s0, s1, s2]) rfl ?_
    rw [H.out]
    exact ⟨rfl, s5 _ hk2 (by omega)⟩
  · have hd := decide_eq_false hc
    have H := Lib.hid (show moreR x y = y by unfold moreR; rw [if_neg]; have := @cmpZ_lt x.iv y.iv; omega)
    clear hc
    go_wp2_with fail
    have hst := stored q0 q1 q2 (fun _ h => by cases h) (fun _ h => by cases h) (fun _ h => by cases h) (.bool y.neg) (.slice y.a y.xs.length y.c) (.int .i64 y.e)
    generalize (((w1.setCell _ _).setCell _ _).setCell _ _) = W2 at hst ⊢
    obtain ⟨s0, s1, s2, _, s4, s5, _, _⟩ := hst
    refine bodyPost_ret (v := .agg #[.bool y.neg, .slice y.a y.xs.length y.c, .int .i64 y.e]) (by simp [results, Tryz.results114, go_sem, s0, s1, s2]) rfl ?_
    rw [H.out]
    exact ⟨rfl, s5 _ hk2 (by omega)⟩
theorem maxD_neg {lo hi : Dy} (hl : lo.ok) (hh : hi.ok) (h : lo.iv ≤ hi.iv) : maxD lo.opp hi = maxD lo.absv hi.absv := by
  have o1 := Dy.opp_ok2 hl
  have a1 := Dy.absv_ok hl
  have a2 := Dy.absv_ok hh
  have e1 : lo.opp.iv = -lo.iv := Dy.opp_iv _
  have e2 : lo.absv.iv = (lo.iv.natAbs : Int) := Dy.absv_iv
  have e3 : hi.absv.iv = (hi.iv.natAbs : Int) := Dy.absv_iv
  have ok1 : (maxD lo.opp hi).ok := by unfold maxD; split <;> assumption
  have ok2 : (maxD lo.absv hi.absv).ok := by unfold maxD; split <;> assumption
  refine Dy.iv_inj ok1 ok2 ?_
  unfold maxD
  split <;> split <;> omega
set_option maxRecDepth 100000 in
set_option maxHeartbeats 8000000 in
theorem r5mag_any (x : RI) (w : World) (ox : x.ok w) :
    Calls Tryz.prog 60 #[.agg #[.bool x.lo.neg, .slice x.lo.a x.lo.xs.length x.lo.c, .int .i64 x.lo.e, .bool x.hi.neg, .slice x.hi.a x.hi.xs.length x.hi.c, .int .i64 x.hi.e, .bool x.all]] w (NumOut w (magP x.pl)) := by
  have ha := ox.2.1
  have HP := Lib.hid (show magP x.pl = maxD x.lo.dy.opp x.hi.dy by unfold magP; rw [if_neg (by show ¬ x.all = true; rw [ha]; decide), maxD_neg (rdok_dy ox.lo) (rdok_dy ox.hi) ox.parts.2.2]; rfl)
  clear ha
  go_enter Tryz.func60, Tryz.ntmps60
  go_wp2_with fail
  generalize hW : ((w.alloc _).alloc _) = W at *
  have hk : Kp w W := hW ▸ ((Kp.refl w).alloc _).alloc _
  have hS : W.cell? ⟨w.heap.size, 0, none⟩ = some (.bool x.lo.neg) ∧ W.cell? ⟨w.heap.size, 1, none⟩ = some (.slice x.lo.a x.lo.xs.length x.lo.c) ∧ W.cell? ⟨w.heap.size, 2, none⟩ = some (.int .i64 x.lo.e) ∧ W.cell? ⟨w.heap.size, 3, none⟩ = some (.bool x.hi.neg) ∧ W.cell? ⟨w.heap.size, 4, none⟩ = some (.slice x.hi.a x.hi.xs.length x.hi.c) ∧ W.cell? ⟨w.heap.size, 5, none⟩ = some (.int .i64 x.hi.e) ∧ W.cell? ⟨w.heap.size, 6, none⟩ = some (.bool x.all) := by rw [← hW]; simp
  have hV : Box3 W (w.heap.size + 1) (.bool false) (.slice none 0 0) (.int .i64 0) := by rw [← hW]; exact Box3.new2 _ _ _ _ _ _
  clear hW
  have kd := (Kp.refl W).drew
  have hB2 := hV.kp kd
  have hk3 := hk.trans kd
  have Ox := Lib.hid (ox.kp hk3)
  have hS4 := keep7 kd hS
  clear hV hS kd hk
  go_region_held3 (fun w' => w'.cell? ⟨w.heap.size, 0, none⟩ = some (.bool x.lo.neg) ∧ w'.cell? ⟨w.heap.size, 1, none⟩ = some (.slice x.lo.a x.lo.xs.length x.lo.c) ∧ w'.cell? ⟨w.heap.size, 2, none⟩ = some (.int .i64 x.lo.e) ∧ w'.cell? ⟨w.heap.size, 3, none⟩ = some (.bool x.hi.neg) ∧ w'.cell? ⟨w.heap.size, 4, none⟩ = some (.slice x.hi.a x.hi.xs.length x.hi.c) ∧ w'.cell? ⟨w.heap.size, 5, none⟩ = some (.int .i64 x.hi.e) ∧ w'.cell? ⟨w.heap.size, 6, none⟩ = some (.bool x.all)) (first | with_reducible assumption | with_reducible exact keep7 (by assumption) (by assumption) | with_reducible exact set7by3 (by omega) (by assumption))
    (first
      | (go_at_call 115; go_fit (r2Neg_ok x.lo _ Ox.out.lo); rintro e w4 ⟨z1, rfl, r1, d1, v1, hk4⟩
         have O1 := Lib.hid (show z1.ok w4 from ⟨r1, v1 (Dy.opp_ok2 (rdok_dy Ox.out.lo))⟩)
         have D1 := Lib.hid d1
         clear r1 d1 v1)
      | (go_at_call 114; go_fit (r5most_ok z1 x.hi _ O1.out (Ox.out.hi.kp hk4)); rintro e w6 ⟨rfl, hk6⟩; have hk7 := hk4.trans hk6; obtain ⟨q0, q1, q2, f0, f1, f2⟩ := hB2.kp hk7)
      | fail)
  have hk8 := hk3.trans hk7
  have OM := Lib.hid (moreR_ok (O1.out.kp hk6) ((Ox.out.hi.kp hk4).kp hk6))
  have DM := Lib.hid (moreR_dy z1 x.hi)
  clear hS4 hB2
  generalize moreR z1 x.hi = Z at *
  have hst := stored q0 q1 q2 (fun _ h => by cases h) (fun _ h => by cases h) (fun _ h => by cases h) (.bool Z.neg) (.slice Z.a Z.xs.length Z.c) (.int .i64 Z.e)
  go_wp2_with fail
  generalize (((w6.setCell _ _).setCell _ _).setCell _ _) = W9 at hst ⊢
  obtain ⟨s0, s1, s2, _, s4, s5, _, _⟩ := hst
  refine bodyPost_ret (v := .agg #[.bool Z.neg, .slice Z.a Z.xs.length Z.c, .int .i64 Z.e]) (by simp [results, Tryz.results60, go_sem, s0, s1, s2]) rfl ?_
  rw [HP.out, ← D1.out]
  exact ⟨Z, rfl, ⟨s4 _ _ OM.out.1.1, OM.out.1.2⟩, DM.out, fun _ => OM.out.2, s5 _ hk8 (by omega)⟩
end Go.Proofs.YtdidocdpjiiedaaGreatDoor
end
