/-
  Walks: interval.Meet, of valid intervals other than All.
-/
import Derived.Test.YtkohlmlmoapedaaDoorMIvE
namespace Go.Proofs.YtkohlmlmoapedaaDoor
open Go.RowKit

/-- what both have in common -/
def meetI (x y : RI) : RI := ⟨moreR x.lo y.lo, lessR x.hi y.hi, false⟩
/-- have they anything in common? -/
def meets (x y : RI) : Bool := decide ((moreR x.lo y.lo).iv ≤ (lessR x.hi y.hi).iv)

/-- this result -/
def MeetOut (x y : RI) (w : World) (e : Ending) (w' : World) : Prop :=
  e = .returned (.tuple #[if meets x y then .agg #[.bool (meetI x y).lo.neg, .slice (meetI x y).lo.a (meetI x y).lo.xs.length (meetI x y).lo.c, .int .i64 (meetI x y).lo.e, .bool (meetI x y).hi.neg, .slice (meetI x y).hi.a (meetI x y).hi.xs.length (meetI x y).hi.c, .int .i64 (meetI x y).hi.e, .bool (meetI x y).all] else .agg #[.bool false, .slice none 0 0, .int .i64 0, .bool false, .slice none 0 0, .int .i64 0, .bool false], .bool (meets x y)]) ∧ Kp w w'
theorem Var7.upd {w W : World} {g g' : Nat} (h : Var7 w g') (n : g' ≠ g) (u : Upd g w W) : Var7 W g' := by
  obtain ⟨⟨h0, h1, h2, h3, h4, h5, h6⟩, f0, f1, f2, f3, f4, f5, f6⟩ := h
  have e (j : Nat) : W.cell? ⟨g', j, none⟩ = w.cell? ⟨g', j, none⟩ := u.2.2.2.1 _ n
  have f (j : Nat) : W.frozen? ⟨g', j, none⟩ = w.frozen? ⟨g', j, none⟩ := u.1 _
  exact ⟨⟨(e 0).trans h0, (e 1).trans h1, (e 2).trans h2, (e 3).trans h3, (e 4).trans h4, (e 5).trans h5, (e 6).trans h6⟩,
    (f 0).trans f0, (f 1).trans f1, (f 2).trans f2, (f 3).trans f3, (f 4).trans f4, (f 5).trans f5, (f 6).trans f6⟩
theorem kp_ad (w : World) (o : Obj) : Kp w.drew (w.alloc o).drew := (Kp.refl w.drew).alloc o
theorem Var7.newd (w : World) (t : TypeId) : Var7 (w.alloc (.cells #[.bool false, .slice none 0 0, .int .i64 0, .bool false, .slice none 0 0, .int .i64 0, .bool false] t)).drew w.heap.size := (Var7.new w t).kp (Kp.refl _).drew
theorem set77a {w : World} {o1 o2 : Obj} {g1 g2 : Nat} (n1 : g1 < w.heap.size) (n2 : g2 < w.heap.size) {v0 v1 v2 v3 v4 v5 v6 u0 u1 u2 u3 u4 u5 u6 : Value}
    (h : ((w.alloc o1).cell? ⟨g1, 0, none⟩ = some v0 ∧ (w.alloc o1).cell? ⟨g1, 1, none⟩ = some v1 ∧ (w.alloc o1).cell? ⟨g1, 2, none⟩ = some v2 ∧ (w.alloc o1).cell? ⟨g1, 3, none⟩ = some v3 ∧ (w.alloc o1).cell? ⟨g1, 4, none⟩ = some v4 ∧ (w.alloc o1).cell? ⟨g1, 5, none⟩ = some v5 ∧ (w.alloc o1).cell? ⟨g1, 6, none⟩ = some v6) ∧ (w.alloc o1).cell? ⟨g2, 0, none⟩ = some u0 ∧ (w.alloc o1).cell? ⟨g2, 1, none⟩ = some u1 ∧ (w.alloc o1).cell? ⟨g2, 2, none⟩ = some u2 ∧ (w.alloc o1).cell? ⟨g2, 3, none⟩ = some u3 ∧ (w.alloc o1).cell? ⟨g2, 4, none⟩ = some u4 ∧ (w.alloc o1).cell? ⟨g2, 5, none⟩ = some u5 ∧ (w.alloc o1).cell? ⟨g2, 6, none⟩ = some u6) : ((w.alloc o2).cell? ⟨g1, 0, none⟩ = some v0 ∧ (w.alloc o2).cell? ⟨g1, 1, none⟩ = some v1 ∧ (w.alloc o2).cell? ⟨g1, 2, none⟩ = some v2 ∧ (w.alloc o2).cell? ⟨g1, 3, none⟩ = some v3 ∧ (w.alloc o2).cell? ⟨g1, 4, none⟩ = some v4 ∧ (w.alloc o2).cell? ⟨g1, 5, none⟩ = some v5 ∧ (w.alloc o2).cell? ⟨g1, 6, none⟩ = some v6) ∧ (w.alloc o2).cell? ⟨g2, 0, none⟩ = some u0 ∧ (w.alloc o2).cell? ⟨g2, 1, none⟩ = some u1 ∧ (w.alloc o2).cell? ⟨g2, 2, none⟩ = some u2 ∧ (w.alloc o2).cell? ⟨g2, 3, none⟩ = some u3 ∧ (w.alloc o2).cell? ⟨g2, 4, none⟩ = some u4 ∧ (w.alloc o2).cell? ⟨g2, 5, none⟩ = some u5 ∧ (w.alloc o2).cell? ⟨g2, 6, none⟩ = some u6 := by
  have key (a j : Nat) (n : a < w.heap.size) : (w.alloc o2).cell? ⟨a, j, none⟩ = (w.alloc o1).cell? ⟨a, j, none⟩ :=
    (Below.cell ((Kp.refl w).alloc o2) n).trans (Below.cell ((Kp.refl w).alloc o1) n).symm
  simp only [key _ _ n1, key _ _ n2]
  exact h

set_option maxHeartbeats 8000000 in
theorem IMeet_ok (x y : RI) (w : World) (hx : x.ok w) (hy : y.ok w) :
    Calls Tryd.prog 29 #[.agg #[.bool x.lo.neg, .slice x.lo.a x.lo.xs.length x.lo.c, .int .i64 x.lo.e, .bool x.hi.neg, .slice x.hi.a x.hi.xs.length x.hi.c, .int .i64 x.hi.e, .bool false], .agg #[.bool y.lo.neg, .slice y.lo.a y.lo.xs.length y.lo.c, .int .i64 y.lo.e, .bool y.hi.neg, .slice y.hi.a y.hi.xs.length y.hi.c, .int .i64 y.hi.e, .bool false]] w (MeetOut x y w) := by
  go_enter Tryd.func29, Tryd.ntmps29
  go_wp2_with fail
  generalize hW : (((w.alloc _).alloc _).alloc _) = W at *
  have hk : Kp w W := hW ▸ (((Kp.refl w).alloc _).alloc _).alloc _
  have hS : (W.cell? ⟨w.heap.size, 0, none⟩ = some (.bool x.lo.neg) ∧ W.cell? ⟨w.heap.size, 1, none⟩ = some (.slice x.lo.a x.lo.xs.length x.lo.c) ∧ W.cell? ⟨w.heap.size, 2, none⟩ = some (.int .i64 x.lo.e) ∧ W.cell? ⟨w.heap.size, 3, none⟩ = some (.bool x.hi.neg) ∧ W.cell? ⟨w.heap.size, 4, none⟩ = some (.slice x.hi.a x.hi.xs.length x.hi.c) ∧ W.cell? ⟨w.heap.size, 5, none⟩ = some (.int .i64 x.hi.e) ∧ W.cell? ⟨w.heap.size, 6, none⟩ = some (.bool false)) ∧ W.cell? ⟨w.heap.size + 1, 0, none⟩ = some (.bool y.lo.neg) ∧ W.cell? ⟨w.heap.size + 1, 1, none⟩ = some (.slice y.lo.a y.lo.xs.length y.lo.c) ∧ W.cell? ⟨w.heap.size + 1, 2, none⟩ = some (.int .i64 y.lo.e) ∧ W.cell? ⟨w.heap.size + 1, 3, none⟩ = some (.bool y.hi.neg) ∧ W.cell? ⟨w.heap.size + 1, 4, none⟩ = some (.slice y.hi.a y.hi.xs.length y.hi.c) ∧ W.cell? ⟨w.heap.size + 1, 5, none⟩ = some (.int .i64 y.hi.e) ∧ W.cell? ⟨w.heap.size + 1, 6, none⟩ = some (.bool false) := by rw [← hW]; exact keep77 ((Kp.refl _).alloc _) (by simp)
  have hV : Var7 W (w.heap.size + 1 + 1) := hW ▸ Var7.new2 _ _ _ _
  clear hW
  refine (IValid_ok x _ (hx.kp hk)).mono ?_
  rintro e w1 ⟨rfl, hk1⟩
  have hS1 := keep77 hk1 hS
  have hV1 := hV.kp hk1
  have hk2 := hk.trans hk1
  clear hS hk hk1 hV
  go_wp2_with fail
  refine (IValid_ok y _ (hy.kp hk2)).mono ?_
  rintro e w3 ⟨rfl, hk3⟩
  have hS2 := keep77 hk3 hS1
  have hV2 := hV1.kp hk3
  have hk4 := hk2.trans hk3
  clear hS1 hk2 hk3 hV1
  go_wp2_with fail
  have hx2 := (hx.kp hk4).drew
  have hy2 := (hy.kp hk4).drew
  have hk45 := hk4.drew
  have hzz : w.heap.size + 1 + 1 < w3.drew.heap.size := by have := hk4.size; have := World.block_lt_of_cell? _ _ hV2.1.1; exact this
  have hV5 := hV2.kp (Kp.refl w3).drew
  have hS5 := keep77 (Kp.refl w3).drew hS2
  clear hS2 hV2 hk4
  have z0 : w.heap.size + 1 + 1 < w3.drew.heap.size := hzz
  have z1 : w.heap.size + 1 + 1 < w3.heap.size := hzz
  clear hzz
  go_region_held3 (fun w' => (w'.cell? ⟨w.heap.size, 0, none⟩ = some (.bool x.lo.neg) ∧ w'.cell? ⟨w.heap.size, 1, none⟩ = some (.slice x.lo.a x.lo.xs.length x.lo.c) ∧ w'.cell? ⟨w.heap.size, 2, none⟩ = some (.int .i64 x.lo.e) ∧ w'.cell? ⟨w.heap.size, 3, none⟩ = some (.bool x.hi.neg) ∧ w'.cell? ⟨w.heap.size, 4, none⟩ = some (.slice x.hi.a x.hi.xs.length x.hi.c) ∧ w'.cell? ⟨w.heap.size, 5, none⟩ = some (.int .i64 x.hi.e) ∧ w'.cell? ⟨w.heap.size, 6, none⟩ = some (.bool false)) ∧ w'.cell? ⟨w.heap.size + 1, 0, none⟩ = some (.bool y.lo.neg) ∧ w'.cell? ⟨w.heap.size + 1, 1, none⟩ = some (.slice y.lo.a y.lo.xs.length y.lo.c) ∧ w'.cell? ⟨w.heap.size + 1, 2, none⟩ = some (.int .i64 y.lo.e) ∧ w'.cell? ⟨w.heap.size + 1, 3, none⟩ = some (.bool y.hi.neg) ∧ w'.cell? ⟨w.heap.size + 1, 4, none⟩ = some (.slice y.hi.a y.hi.xs.length y.hi.c) ∧ w'.cell? ⟨w.heap.size + 1, 5, none⟩ = some (.int .i64 y.hi.e) ∧ w'.cell? ⟨w.heap.size + 1, 6, none⟩ = some (.bool false)) (first | with_reducible assumption | with_reducible exact keep77 (by assumption) (by assumption) | with_reducible exact keep77 ((Kp.refl _).alloc _) (by assumption) | with_reducible exact keep77 (kp_ad _ _) (by assumption) | with_reducible exact set77 (by omega) (by omega) (by assumption) | with_reducible exact set77a (by omega) (by omega) (by assumption))
    (first
      | (go_at_call 52; refine (more_ok x.lo y.lo _ (hx2.lo.kp (by first | with_reducible exact Kp.refl _ | with_reducible exact kp_ad _ _)) (hy2.lo.kp (by first | with_reducible exact Kp.refl _ | with_reducible exact kp_ad _ _))).mono ?_; rintro e w4 ⟨rfl, hk4⟩
         have hk4' := Lib.hid (show Kp w3.drew w4 by first | with_reducible exact hk4 | with_reducible exact (kp_ad _ _).trans hk4)
         have z4 := hk4'.out.size)
      | (go_at_call 51; refine (less_ok x.hi y.hi _ (hx2.hi.kp (by first | with_reducible exact hk4'.out | with_reducible exact hk4'.out.alloc _)) (hy2.hi.kp (by first | with_reducible exact hk4'.out | with_reducible exact hk4'.out.alloc _))).mono ?_; rintro e w5 ⟨rfl, hk5⟩
         have hk5' := Lib.hid (show Kp w4 w5 by first | with_reducible exact hk5 | with_reducible exact ((Kp.refl _).alloc _).trans hk5)
         have z5 := hk5'.out.size
         have hkl := Lib.hid (hk45.trans (hk4'.out.trans hk5'.out))
         have hvl := Lib.hid (hV5.kp (hk4'.out.trans hk5'.out))
         first
           | (with_reducible have hz := ((Var7.newd _ _).kp hk4).kp hk5'.out); obtain ⟨⟨q0, q1, q2, q3, q4, q5, q6⟩, ⟨f0, f1, f2, f3, f4, f5, f6⟩⟩ := hz
           | (with_reducible have hz := (Var7.new _ _).kp hk5); obtain ⟨⟨q0, q1, q2, q3, q4, q5, q6⟩, ⟨f0, f1, f2, f3, f4, f5, f6⟩⟩ := hz
           | skip))
  all_goals clear hx2 hy2 hk45 hV5
  · clear hk4 hk5
    have hk9 := hkl.out.alloc (.cells #[.bool (meetI x y).lo.neg, .slice (meetI x y).lo.a (meetI x y).lo.xs.length (meetI x y).lo.c, .int .i64 (meetI x y).lo.e, .bool (meetI x y).hi.neg, .slice (meetI x y).hi.a (meetI x y).hi.xs.length (meetI x y).hi.c, .int .i64 (meetI x y).hi.e, .bool false] 39)
    have hv9 := hvl.out.alloc (.cells #[.bool (meetI x y).lo.neg, .slice (meetI x y).lo.a (meetI x y).lo.xs.length (meetI x y).lo.c, .int .i64 (meetI x y).lo.e, .bool (meetI x y).hi.neg, .slice (meetI x y).hi.a (meetI x y).hi.xs.length (meetI x y).hi.c, .int .i64 (meetI x y).hi.e, .bool false] 39)
    have hZ := Box7.new w5 (.bool (moreR x.lo y.lo).neg) (.slice (moreR x.lo y.lo).a (moreR x.lo y.lo).xs.length (moreR x.lo y.lo).c) (.int .i64 (moreR x.lo y.lo).e) (.bool (lessR x.hi y.hi).neg) (.slice (lessR x.hi y.hi).a (lessR x.hi y.hi).xs.length (lessR x.hi y.hi).c) (.int .i64 (lessR x.hi y.hi).e) (.bool false) 39
    unfold meetI at hk9 hv9
    dsimp only at hk9 hv9
    generalize w5.alloc _ = W9 at *
    clear z0 z1 z4 z5 hk4' hk5' hkl hvl
    have hxm : (moreR x.lo y.lo).ok W9 := moreR_ok (hx.lo.kp hk9) (hy.lo.kp hk9)
    have hxl : (lessR x.hi y.hi).ok W9 := lessR_ok (hx.hi.kp hk9) (hy.hi.kp hk9)
    obtain ⟨c0, c1, c2, c3, c4, c5, c6⟩ := hZ
    have hC := And.intro c0 (And.intro c1 (And.intro c2 (And.intro c3 (And.intro c4 (And.intro c5 c6)))))
    clear c0 c1 c2 c3 c4 c5 c6
    go_wp2_with fail
    refine (Cmp_rok _ _ _ hxm hxl).mono ?_
    rintro e w6 ⟨rfl, hk6⟩
    have hC6 := keep7 hk6 hC
    obtain ⟨⟨p0, p1, p2, p3, p4, p5, p6⟩, ⟨f0, f1, f2, f3, f4, f5, f6⟩⟩ := hv9.kp hk6
    have hkf := hk9.trans hk6
    clear hk9 hk6 hv9 hC hxm hxl
    by_cases hc : 0 < cmpZ (moreR x.lo y.lo).iv (lessR x.hi y.hi).iv
    · have hd := decide_eq_true hc
      have Hm := Lib.hid (show meets x y = false by unfold meets; rw [← leZ]; exact decide_eq_false (by omega))
      clear hc
      go_wp2_with fail
      generalize hW8 : ((((((w6.setCell _ _).setCell _ _).setCell _ _).setCell _ _).setCell _ _).setCell _ _).setCell _ _ = W8
      obtain ⟨⟨s0, s1, s2, s3, s4, s5, s6⟩, hU⟩ := stored7 (show Box7 w6 _ _ _ _ _ _ _ _ from ⟨p0, p1, p2, p3, p4, p5, p6⟩) (fun _ h => by cases h) (fun _ h => by cases h) (fun _ h => by cases h) (fun _ h => by cases h) (fun _ h => by cases h) (fun _ h => by cases h) (fun _ h => by cases h) _ _ _ _ _ _ _ hW8
      refine bodyPost_ret (v := .tuple #[.agg #[.bool false, .slice none 0 0, .int .i64 0, .bool false, .slice none 0 0, .int .i64 0, .bool false], .bool false]) (by simp [results, Tryd.results29, go_sem, s0, s1, s2, s3, s4, s5, s6]) rfl ?_
      refine ⟨?_, hU.2.2.1 _ hkf (by omega)⟩
      rw [Hm.out]; rfl
    · have hd := decide_eq_false hc
      have Hm := Lib.hid (show meets x y = true by unfold meets; rw [← leZ]; exact decide_eq_true (by omega))
      clear hc
      go_wp2_with fail
      generalize hW8 : ((((((w6.setCell _ _).setCell _ _).setCell _ _).setCell _ _).setCell _ _).setCell _ _).setCell _ _ = W8
      obtain ⟨⟨s0, s1, s2, s3, s4, s5, s6⟩, hU⟩ := stored7 (show Box7 w6 _ _ _ _ _ _ _ _ from ⟨p0, p1, p2, p3, p4, p5, p6⟩) (fun _ h => by cases h) (fun _ h => by cases h) (fun _ h => by cases h) (fun _ h => by cases h) (fun _ h => by cases h) (fun _ h => by cases h) (fun _ h => by cases h) _ _ _ _ _ _ _ hW8
      refine bodyPost_ret (v := .tuple #[.agg #[.bool (meetI x y).lo.neg, .slice (meetI x y).lo.a (meetI x y).lo.xs.length (meetI x y).lo.c, .int .i64 (meetI x y).lo.e, .bool (meetI x y).hi.neg, .slice (meetI x y).hi.a (meetI x y).hi.xs.length (meetI x y).hi.c, .int .i64 (meetI x y).hi.e, .bool false], .bool true]) (by simp [results, Tryd.results29, go_sem, s0, s1, s2, s3, s4, s5, s6, meetI]) rfl ?_
      refine ⟨?_, hU.2.2.1 _ hkf (by omega)⟩
      rw [Hm.out]; rfl
  · clear hk4 hk5
    generalize hW9 : ((((((w5.setCell _ _).setCell _ _).setCell _ _).setCell _ _).setCell _ _).setCell _ _).setCell _ _ = W9
    obtain ⟨hZ, hU9⟩ := stored7 (show Box7 w5 _ _ _ _ _ _ _ _ from ⟨q0, q1, q2, q3, q4, q5, q6⟩) (fun _ h => by cases h) (fun _ h => by cases h) (fun _ h => by cases h) (fun _ h => by cases h) (fun _ h => by cases h) (fun _ h => by cases h) (fun _ h => by cases h) _ _ _ _ _ _ _ hW9
    have hv9 := hvl.out.upd (by omega) hU9
    have hk9 := hU9.2.2.1 _ hkl.out (by omega)
    clear hW9 hU9 q0 q1 q2 q3 q4 q5 q6 f0 f1 f2 f3 f4 f5 f6
    clear z0 z1 z4 z5 hk4' hk5' hkl hvl
    have hxm : (moreR x.lo y.lo).ok W9 := moreR_ok (hx.lo.kp hk9) (hy.lo.kp hk9)
    have hxl : (lessR x.hi y.hi).ok W9 := lessR_ok (hx.hi.kp hk9) (hy.hi.kp hk9)
    obtain ⟨c0, c1, c2, c3, c4, c5, c6⟩ := hZ
    have hC := And.intro c0 (And.intro c1 (And.intro c2 (And.intro c3 (And.intro c4 (And.intro c5 c6)))))
    clear c0 c1 c2 c3 c4 c5 c6
    go_wp2_with fail
    refine (Cmp_rok _ _ _ hxm hxl).mono ?_
    rintro e w6 ⟨rfl, hk6⟩
    have hC6 := keep7 hk6 hC
    obtain ⟨⟨p0, p1, p2, p3, p4, p5, p6⟩, ⟨f0, f1, f2, f3, f4, f5, f6⟩⟩ := hv9.kp hk6
    have hkf := hk9.trans hk6
    clear hk9 hk6 hv9 hC hxm hxl
    by_cases hc : 0 < cmpZ (moreR x.lo y.lo).iv (lessR x.hi y.hi).iv
    · have hd := decide_eq_true hc
      have Hm := Lib.hid (show meets x y = false by unfold meets; rw [← leZ]; exact decide_eq_false (by omega))
      clear hc
      go_wp2_with fail
      generalize hW8 : ((((((w6.setCell _ _).setCell _ _).setCell _ _).setCell _ _).setCell _ _).setCell _ _).setCell _ _ = W8
      obtain ⟨⟨s0, s1, s2, s3, s4, s5, s6⟩, hU⟩ := stored7 (show Box7 w6 _ _ _ _ _ _ _ _ from ⟨p0, p1, p2, p3, p4, p5, p6⟩) (fun _ h => by cases h) (fun _ h => by cases h) (fun _ h => by cases h) (fun _ h => by cases h) (fun _ h => by cases h) (fun _ h => by cases h) (fun _ h => by cases h) _ _ _ _ _ _ _ hW8
      refine bodyPost_ret (v := .tuple #[.agg #[.bool false, .slice none 0 0, .int .i64 0, .bool false, .slice none 0 0, .int .i64 0, .bool false], .bool false]) (by simp [results, Tryd.results29, go_sem, s0, s1, s2, s3, s4, s5, s6]) rfl ?_
      refine ⟨?_, hU.2.2.1 _ hkf (by omega)⟩
      rw [Hm.out]; rfl
    · have hd := decide_eq_false hc
      have Hm := Lib.hid (show meets x y = true by unfold meets; rw [← leZ]; exact decide_eq_true (by omega))
      clear hc
      go_wp2_with fail
      generalize hW8 : ((((((w6.setCell _ _).setCell _ _).setCell _ _).setCell _ _).setCell _ _).setCell _ _).setCell _ _ = W8
      obtain ⟨⟨s0, s1, s2, s3, s4, s5, s6⟩, hU⟩ := stored7 (show Box7 w6 _ _ _ _ _ _ _ _ from ⟨p0, p1, p2, p3, p4, p5, p6⟩) (fun _ h => by cases h) (fun _ h => by cases h) (fun _ h => by cases h) (fun _ h => by cases h) (fun _ h => by cases h) (fun _ h => by cases h) (fun _ h => by cases h) _ _ _ _ _ _ _ hW8
      refine bodyPost_ret (v := .tuple #[.agg #[.bool (meetI x y).lo.neg, .slice (meetI x y).lo.a (meetI x y).lo.xs.length (meetI x y).lo.c, .int .i64 (meetI x y).lo.e, .bool (meetI x y).hi.neg, .slice (meetI x y).hi.a (meetI x y).hi.xs.length (meetI x y).hi.c, .int .i64 (meetI x y).hi.e, .bool false], .bool true]) (by simp [results, Tryd.results29, go_sem, s0, s1, s2, s3, s4, s5, s6, meetI]) rfl ?_
      refine ⟨?_, hU.2.2.1 _ hkf (by omega)⟩
      rw [Hm.out]; rfl
  · clear hk4 hk5
    generalize hW9 : ((((((w5.setCell _ _).setCell _ _).setCell _ _).setCell _ _).setCell _ _).setCell _ _).setCell _ _ = W9
    obtain ⟨hZ, hU9⟩ := stored7 (show Box7 w5 _ _ _ _ _ _ _ _ from ⟨q0, q1, q2, q3, q4, q5, q6⟩) (fun _ h => by cases h) (fun _ h => by cases h) (fun _ h => by cases h) (fun _ h => by cases h) (fun _ h => by cases h) (fun _ h => by cases h) (fun _ h => by cases h) _ _ _ _ _ _ _ hW9
    have hv9 := hvl.out.upd (by omega) hU9
    have hk9 := hU9.2.2.1 _ hkl.out (by omega)
    clear hW9 hU9 q0 q1 q2 q3 q4 q5 q6 f0 f1 f2 f3 f4 f5 f6
    clear z0 z1 z4 z5 hk4' hk5' hkl hvl
    have hxm : (moreR x.lo y.lo).ok W9 := moreR_ok (hx.lo.kp hk9) (hy.lo.kp hk9)
    have hxl : (lessR x.hi y.hi).ok W9 := lessR_ok (hx.hi.kp hk9) (hy.hi.kp hk9)
    obtain ⟨c0, c1, c2, c3, c4, c5, c6⟩ := hZ
    have hC := And.intro c0 (And.intro c1 (And.intro c2 (And.intro c3 (And.intro c4 (And.intro c5 c6)))))
    clear c0 c1 c2 c3 c4 c5 c6
    go_wp2_with fail
    refine (Cmp_rok _ _ _ hxm hxl).mono ?_
    rintro e w6 ⟨rfl, hk6⟩
    have hC6 := keep7 hk6 hC
    obtain ⟨⟨p0, p1, p2, p3, p4, p5, p6⟩, ⟨f0, f1, f2, f3, f4, f5, f6⟩⟩ := hv9.kp hk6
    have hkf := hk9.trans hk6
    clear hk9 hk6 hv9 hC hxm hxl
    by_cases hc : 0 < cmpZ (moreR x.lo y.lo).iv (lessR x.hi y.hi).iv
    · have hd := decide_eq_true hc
      have Hm := Lib.hid (show meets x y = false by unfold meets; rw [← leZ]; exact decide_eq_false (by omega))
      clear hc
      go_wp2_with fail
      generalize hW8 : ((((((w6.setCell _ _).setCell _ _).setCell _ _).setCell _ _).setCell _ _).setCell _ _).setCell _ _ = W8
      obtain ⟨⟨s0, s1, s2, s3, s4, s5, s6⟩, hU⟩ := stored7 (show Box7 w6 _ _ _ _ _ _ _ _ from ⟨p0, p1, p2, p3, p4, p5, p6⟩) (fun _ h => by cases h) (fun _ h => by cases h) (fun _ h => by cases h) (fun _ h => by cases h) (fun _ h => by cases h) (fun _ h => by cases h) (fun _ h => by cases h) _ _ _ _ _ _ _ hW8
      refine bodyPost_ret (v := .tuple #[.agg #[.bool false, .slice none 0 0, .int .i64 0, .bool false, .slice none 0 0, .int .i64 0, .bool false], .bool false]) (by simp [results, Tryd.results29, go_sem, s0, s1, s2, s3, s4, s5, s6]) rfl ?_
      refine ⟨?_, hU.2.2.1 _ hkf (by omega)⟩
      rw [Hm.out]; rfl
    · have hd := decide_eq_false hc
      have Hm := Lib.hid (show meets x y = true by unfold meets; rw [← leZ]; exact decide_eq_true (by omega))
      clear hc
      go_wp2_with fail
      generalize hW8 : ((((((w6.setCell _ _).setCell _ _).setCell _ _).setCell _ _).setCell _ _).setCell _ _).setCell _ _ = W8
      obtain ⟨⟨s0, s1, s2, s3, s4, s5, s6⟩, hU⟩ := stored7 (show Box7 w6 _ _ _ _ _ _ _ _ from ⟨p0, p1, p2, p3, p4, p5, p6⟩) (fun _ h => by cases h) (fun _ h => by cases h) (fun _ h => by cases h) (fun _ h => by cases h) (fun _ h => by cases h) (fun _ h => by cases h) (fun _ h => by cases h) _ _ _ _ _ _ _ hW8
      refine bodyPost_ret (v := .tuple #[.agg #[.bool (meetI x y).lo.neg, .slice (meetI x y).lo.a (meetI x y).lo.xs.length (meetI x y).lo.c, .int .i64 (meetI x y).lo.e, .bool (meetI x y).hi.neg, .slice (meetI x y).hi.a (meetI x y).hi.xs.length (meetI x y).hi.c, .int .i64 (meetI x y).hi.e, .bool false], .bool true]) (by simp [results, Tryd.results29, go_sem, s0, s1, s2, s3, s4, s5, s6, meetI]) rfl ?_
      refine ⟨?_, hU.2.2.1 _ hkf (by omega)⟩
      rw [Hm.out]; rfl
end Go.Proofs.YtkohlmlmoapedaaDoor
