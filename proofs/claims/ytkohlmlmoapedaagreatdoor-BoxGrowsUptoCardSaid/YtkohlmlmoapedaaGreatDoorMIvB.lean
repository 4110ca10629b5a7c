/-
  Walks: interval.Inside, Interior, Equal, of valid intervals other than All.
-/
import Derived.Test.YtkohlmlmoapedaaGreatDoorMRaw
namespace Go.Proofs.YtkohlmlmoapedaaGreatDoor
open Go.RowKit

/-- a valid interval other than All -/
def RI.ok (w : World) (x : RI) : Prop := x.rd w ∧ x.all = false ∧ x.vl = true
theorem RI.ok.kp {w w' : World} {x : RI} (h : x.ok w) (k : Kp w w') : x.ok w' := ⟨h.1.kp k, h.2⟩
theorem RI.ok.drew {w : World} {x : RI} (h : x.ok w) : x.ok w.drew := h.kp (Kp.refl w).drew
theorem RI.ok.parts {w : World} {x : RI} (h : x.ok w) : x.lo.vl = true ∧ x.hi.vl = true ∧ x.lo.iv ≤ x.hi.iv := by
  obtain ⟨_, h1, h2⟩ := h
  unfold RI.vl at h2
  rw [h1] at h2
  simp only [Bool.false_eq_true, if_false, Bool.and_eq_true, decide_eq_true_eq] at h2
  refine ⟨h2.1, h2.2.1, ?_⟩
  have := h2.2.2
  have h3 := @cmpZ_gt x.lo.iv x.hi.iv
  omega
/-- a number that is valid -/
def RD.ok (w : World) (x : RD) : Prop := x.rd w ∧ x.vl = true
theorem RD.ok.kp {w w' : World} {x : RD} (h : x.ok w) (k : Kp w w') : x.ok w' := ⟨h.1.kp k, h.2⟩
theorem RI.ok.lo {w : World} {x : RI} (h : x.ok w) : x.lo.ok w := ⟨h.1.1, h.parts.1⟩
theorem RI.ok.hi {w : World} {x : RI} (h : x.ok w) : x.hi.ok w := ⟨h.1.2, h.parts.2.1⟩
theorem Cmp_rok (x y : RD) (w : World) (hx : x.ok w) (hy : y.ok w) :
    Calls Tryz.prog 54 #[.agg #[.bool x.neg, .slice x.a x.xs.length x.c, .int .i64 x.e], .agg #[.bool y.neg, .slice y.a y.xs.length y.c, .int .i64 y.e]] w fun e w' => e = .returned (.int .i64 (cmpZ x.iv y.iv)) ∧ Kp w w' := Cmp_raw x y w hx.1 hy.1 hx.2 hy.2
theorem IValid_ok (x : RI) (w : World) (h : x.ok w) :
    Calls Tryz.prog 50 #[.agg #[.bool x.lo.neg, .slice x.lo.a x.lo.xs.length x.lo.c, .int .i64 x.lo.e, .bool x.hi.neg, .slice x.hi.a x.hi.xs.length x.hi.c, .int .i64 x.hi.e, .bool false]] w fun e w' => e = .returned (.bool true) ∧ Kp w w' := by
  have H := IValid_raw x w h.1
  rwa [h.2.1, h.2.2] at H
theorem keep77 {w w' : World} (k : Kp w w') {p0 p1 p2 p3 p4 p5 p6 q0 q1 q2 q3 q4 q5 q6 : Addr} {v0 v1 v2 v3 v4 v5 v6 u0 u1 u2 u3 u4 u5 u6 : Value}
    (h : (w.cell? p0 = some v0 ∧ w.cell? p1 = some v1 ∧ w.cell? p2 = some v2 ∧ w.cell? p3 = some v3 ∧ w.cell? p4 = some v4 ∧ w.cell? p5 = some v5 ∧ w.cell? p6 = some v6) ∧ w.cell? q0 = some u0 ∧ w.cell? q1 = some u1 ∧ w.cell? q2 = some u2 ∧ w.cell? q3 = some u3 ∧ w.cell? q4 = some u4 ∧ w.cell? q5 = some u5 ∧ w.cell? q6 = some u6) :
    (w'.cell? p0 = some v0 ∧ w'.cell? p1 = some v1 ∧ w'.cell? p2 = some v2 ∧ w'.cell? p3 = some v3 ∧ w'.cell? p4 = some v4 ∧ w'.cell? p5 = some v5 ∧ w'.cell? p6 = some v6) ∧ w'.cell? q0 = some u0 ∧ w'.cell? q1 = some u1 ∧ w'.cell? q2 = some u2 ∧ w'.cell? q3 = some u3 ∧ w'.cell? q4 = some u4 ∧ w'.cell? q5 = some u5 ∧ w'.cell? q6 = some u6 :=
  ⟨keep7 k h.1, keep7 k h.2⟩
theorem leZ (x y : Int) : decide (cmpZ x y ≤ 0) = decide (x ≤ y) := by
  have := @cmpZ_gt x y
  by_cases h : x ≤ y
  · rw [decide_eq_true h, decide_eq_true (by omega)]
  · rw [decide_eq_false h, decide_eq_false (by omega)]
theorem ltZ (x y : Int) : decide (cmpZ x y < 0) = decide (x < y) := by
  have := @cmpZ_lt x y
  by_cases h : x < y
  · rw [decide_eq_true h, decide_eq_true (by omega)]
  · rw [decide_eq_false h, decide_eq_false (by omega)]
theorem geZ (x y : Int) : decide (0 ≤ cmpZ x y) = decide (y ≤ x) := by
  have := @cmpZ_lt x y
  by_cases h : y ≤ x
  · rw [decide_eq_true h, decide_eq_true (by omega)]
  · rw [decide_eq_false h, decide_eq_false (by omega)]
theorem gtZ (x y : Int) : decide (0 < cmpZ x y) = decide (y < x) := by
  have := @cmpZ_gt x y
  by_cases h : y < x
  · rw [decide_eq_true h, decide_eq_true (by omega)]
  · rw [decide_eq_false h, decide_eq_false (by omega)]

/-- is x in y? -/
def insI (x y : RI) : Bool := decide (y.lo.iv ≤ x.lo.iv) && decide (x.hi.iv ≤ y.hi.iv)
set_option maxHeartbeats 4000000 in
theorem Inside_ok (x y : RI) (w : World) (hx : x.ok w) (hy : y.ok w) :
    Calls Tryz.prog 31 #[.agg #[.bool x.lo.neg, .slice x.lo.a x.lo.xs.length x.lo.c, .int .i64 x.lo.e, .bool x.hi.neg, .slice x.hi.a x.hi.xs.length x.hi.c, .int .i64 x.hi.e, .bool false], .agg #[.bool y.lo.neg, .slice y.lo.a y.lo.xs.length y.lo.c, .int .i64 y.lo.e, .bool y.hi.neg, .slice y.hi.a y.hi.xs.length y.hi.c, .int .i64 y.hi.e, .bool false]] w fun e w' => e = .returned (.bool (insI x y)) ∧ Kp w w' := by
  have H := Lib.hid (show insI x y = (decide (cmpZ y.lo.iv x.lo.iv ≤ 0) && decide (cmpZ x.hi.iv y.hi.iv ≤ 0)) by rw [leZ, leZ]; rfl)
  go_enter Tryz.func31, Tryz.ntmps31
  go_wp2_with fail
  generalize hW : ((w.alloc _).alloc _) = W at *
  have hk : Kp w W := hW ▸ ((Kp.refl w).alloc _).alloc _
  have hS : (W.cell? ⟨w.heap.size, 0, none⟩ = some (.bool x.lo.neg) ∧ W.cell? ⟨w.heap.size, 1, none⟩ = some (.slice x.lo.a x.lo.xs.length x.lo.c) ∧ W.cell? ⟨w.heap.size, 2, none⟩ = some (.int .i64 x.lo.e) ∧ W.cell? ⟨w.heap.size, 3, none⟩ = some (.bool x.hi.neg) ∧ W.cell? ⟨w.heap.size, 4, none⟩ = some (.slice x.hi.a x.hi.xs.length x.hi.c) ∧ W.cell? ⟨w.heap.size, 5, none⟩ = some (.int .i64 x.hi.e) ∧ W.cell? ⟨w.heap.size, 6, none⟩ = some (.bool false)) ∧ W.cell? ⟨w.heap.size + 1, 0, none⟩ = some (.bool y.lo.neg) ∧ W.cell? ⟨w.heap.size + 1, 1, none⟩ = some (.slice y.lo.a y.lo.xs.length y.lo.c) ∧ W.cell? ⟨w.heap.size + 1, 2, none⟩ = some (.int .i64 y.lo.e) ∧ W.cell? ⟨w.heap.size + 1, 3, none⟩ = some (.bool y.hi.neg) ∧ W.cell? ⟨w.heap.size + 1, 4, none⟩ = some (.slice y.hi.a y.hi.xs.length y.hi.c) ∧ W.cell? ⟨w.heap.size + 1, 5, none⟩ = some (.int .i64 y.hi.e) ∧ W.cell? ⟨w.heap.size + 1, 6, none⟩ = some (.bool false) := by rw [← hW]; simp
  clear hW
  refine (IValid_ok x _ (hx.kp hk)).mono ?_
  rintro e w1 ⟨rfl, hk1⟩
  have hS1 := keep77 hk1 hS
  have hk2 := hk.trans hk1
  clear hS hk hk1
  go_wp2_with fail
  refine (IValid_ok y _ (hy.kp hk2)).mono ?_
  rintro e w3 ⟨rfl, hk3⟩
  have hS2 := keep77 hk3 hS1
  have hk4 := hk2.trans hk3
  clear hS1 hk2 hk3
  go_wp2_with fail
  refine (Cmp_rok y.lo x.lo _ (hy.lo.kp hk4) (hx.lo.kp hk4)).mono ?_
  rintro e w5 ⟨rfl, hk5⟩
  have hS3 := keep77 hk5 hS2
  have hk6 := hk4.trans hk5
  clear hS2 hk4 hk5
  by_cases hc : cmpZ y.lo.iv x.lo.iv ≤ 0
  · have hd := decide_eq_true hc
    rw [hd] at H
    clear hc
    go_wp2_with fail
    refine (Cmp_rok x.hi y.hi _ (hx.hi.kp hk6) (hy.hi.kp hk6)).mono ?_
    rintro e w7 ⟨rfl, hk7⟩
    go_wp2_with fail
    go_ret
    exact ⟨ret_bool (by rw [H.out]; simp), hk6.trans hk7⟩
  · have hd := decide_eq_false hc
    rw [hd] at H
    clear hc
    go_wp2_with fail
    go_ret
    exact ⟨ret_bool (by rw [H.out]; simp), hk6⟩

/-- is x in y? -/
def intI (x y : RI) : Bool := decide (y.lo.iv < x.lo.iv) && decide (x.hi.iv < y.hi.iv)
set_option maxHeartbeats 4000000 in
theorem Interior_ok (x y : RI) (w : World) (hx : x.ok w) (hy : y.ok w) :
    Calls Tryz.prog 32 #[.agg #[.bool x.lo.neg, .slice x.lo.a x.lo.xs.length x.lo.c, .int .i64 x.lo.e, .bool x.hi.neg, .slice x.hi.a x.hi.xs.length x.hi.c, .int .i64 x.hi.e, .bool false], .agg #[.bool y.lo.neg, .slice y.lo.a y.lo.xs.length y.lo.c, .int .i64 y.lo.e, .bool y.hi.neg, .slice y.hi.a y.hi.xs.length y.hi.c, .int .i64 y.hi.e, .bool false]] w fun e w' => e = .returned (.bool (intI x y)) ∧ Kp w w' := by
  have H := Lib.hid (show intI x y = (decide (cmpZ y.lo.iv x.lo.iv < 0) && decide (cmpZ x.hi.iv y.hi.iv < 0)) by rw [ltZ, ltZ]; rfl)
  go_enter Tryz.func32, Tryz.ntmps32
  go_wp2_with fail
  generalize hW : ((w.alloc _).alloc _) = W at *
  have hk : Kp w W := hW ▸ ((Kp.refl w).alloc _).alloc _
  have hS : (W.cell? ⟨w.heap.size, 0, none⟩ = some (.bool x.lo.neg) ∧ W.cell? ⟨w.heap.size, 1, none⟩ = some (.slice x.lo.a x.lo.xs.length x.lo.c) ∧ W.cell? ⟨w.heap.size, 2, none⟩ = some (.int .i64 x.lo.e) ∧ W.cell? ⟨w.heap.size, 3, none⟩ = some (.bool x.hi.neg) ∧ W.cell? ⟨w.heap.size, 4, none⟩ = some (.slice x.hi.a x.hi.xs.length x.hi.c) ∧ W.cell? ⟨w.heap.size, 5, none⟩ = some (.int .i64 x.hi.e) ∧ W.cell? ⟨w.heap.size, 6, none⟩ = some (.bool false)) ∧ W.cell? ⟨w.heap.size + 1, 0, none⟩ = some (.bool y.lo.neg) ∧ W.cell? ⟨w.heap.size + 1, 1, none⟩ = some (.slice y.lo.a y.lo.xs.length y.lo.c) ∧ W.cell? ⟨w.heap.size + 1, 2, none⟩ = some (.int .i64 y.lo.e) ∧ W.cell? ⟨w.heap.size + 1, 3, none⟩ = some (.bool y.hi.neg) ∧ W.cell? ⟨w.heap.size + 1, 4, none⟩ = some (.slice y.hi.a y.hi.xs.length y.hi.c) ∧ W.cell? ⟨w.heap.size + 1, 5, none⟩ = some (.int .i64 y.hi.e) ∧ W.cell? ⟨w.heap.size + 1, 6, none⟩ = some (.bool false) := by rw [← hW]; simp
  clear hW
  refine (IValid_ok x _ (hx.kp hk)).mono ?_
  rintro e w1 ⟨rfl, hk1⟩
  have hS1 := keep77 hk1 hS
  have hk2 := hk.trans hk1
  clear hS hk hk1
  go_wp2_with fail
  refine (IValid_ok y _ (hy.kp hk2)).mono ?_
  rintro e w3 ⟨rfl, hk3⟩
  have hS2 := keep77 hk3 hS1
  have hk4 := hk2.trans hk3
  clear hS1 hk2 hk3
  go_wp2_with fail
  refine (Cmp_rok y.lo x.lo _ (hy.lo.kp hk4) (hx.lo.kp hk4)).mono ?_
  rintro e w5 ⟨rfl, hk5⟩
  have hS3 := keep77 hk5 hS2
  have hk6 := hk4.trans hk5
  clear hS2 hk4 hk5
  by_cases hc : cmpZ y.lo.iv x.lo.iv < 0
  · have hd := decide_eq_true hc
    rw [hd] at H
    clear hc
    go_wp2_with fail
    refine (Cmp_rok x.hi y.hi _ (hx.hi.kp hk6) (hy.hi.kp hk6)).mono ?_
    rintro e w7 ⟨rfl, hk7⟩
    go_wp2_with fail
    go_ret
    exact ⟨ret_bool (by rw [H.out]; simp), hk6.trans hk7⟩
  · have hd := decide_eq_false hc
    rw [hd] at H
    clear hc
    go_wp2_with fail
    go_ret
    exact ⟨ret_bool (by rw [H.out]; simp), hk6⟩

/-- are x and y the same? -/
def eqI (x y : RI) : Bool := insI x y && insI y x
set_option maxHeartbeats 4000000 in
theorem Equal_ok (x y : RI) (w : World) (hx : x.ok w) (hy : y.ok w) :
    Calls Tryz.prog 37 #[.agg #[.bool x.lo.neg, .slice x.lo.a x.lo.xs.length x.lo.c, .int .i64 x.lo.e, .bool x.hi.neg, .slice x.hi.a x.hi.xs.length x.hi.c, .int .i64 x.hi.e, .bool false], .agg #[.bool y.lo.neg, .slice y.lo.a y.lo.xs.length y.lo.c, .int .i64 y.lo.e, .bool y.hi.neg, .slice y.hi.a y.hi.xs.length y.hi.c, .int .i64 y.hi.e, .bool false]] w fun e w' => e = .returned (.bool (eqI x y)) ∧ Kp w w' := by
  have H := Lib.hid (show eqI x y = (insI x y && insI y x) from rfl)
  go_enter Tryz.func37, Tryz.ntmps37
  go_wp2_with fail
  generalize hW : ((w.alloc _).alloc _) = W at *
  have hk : Kp w W := hW ▸ ((Kp.refl w).alloc _).alloc _
  have hS : (W.cell? ⟨w.heap.size, 0, none⟩ = some (.bool x.lo.neg) ∧ W.cell? ⟨w.heap.size, 1, none⟩ = some (.slice x.lo.a x.lo.xs.length x.lo.c) ∧ W.cell? ⟨w.heap.size, 2, none⟩ = some (.int .i64 x.lo.e) ∧ W.cell? ⟨w.heap.size, 3, none⟩ = some (.bool x.hi.neg) ∧ W.cell? ⟨w.heap.size, 4, none⟩ = some (.slice x.hi.a x.hi.xs.length x.hi.c) ∧ W.cell? ⟨w.heap.size, 5, none⟩ = some (.int .i64 x.hi.e) ∧ W.cell? ⟨w.heap.size, 6, none⟩ = some (.bool false)) ∧ W.cell? ⟨w.heap.size + 1, 0, none⟩ = some (.bool y.lo.neg) ∧ W.cell? ⟨w.heap.size + 1, 1, none⟩ = some (.slice y.lo.a y.lo.xs.length y.lo.c) ∧ W.cell? ⟨w.heap.size + 1, 2, none⟩ = some (.int .i64 y.lo.e) ∧ W.cell? ⟨w.heap.size + 1, 3, none⟩ = some (.bool y.hi.neg) ∧ W.cell? ⟨w.heap.size + 1, 4, none⟩ = some (.slice y.hi.a y.hi.xs.length y.hi.c) ∧ W.cell? ⟨w.heap.size + 1, 5, none⟩ = some (.int .i64 y.hi.e) ∧ W.cell? ⟨w.heap.size + 1, 6, none⟩ = some (.bool false) := by rw [← hW]; simp
  clear hW
  refine (Inside_ok x y _ (hx.kp hk) (hy.kp hk)).mono ?_
  rintro e w1 ⟨rfl, hk1⟩
  have hS1 := keep77 hk1 hS
  have hk2 := hk.trans hk1
  clear hS hk hk1
  cases hc : insI x y with
  | true =>
    rw [hc] at H
    clear hc
    go_wp2_with fail
    refine (Inside_ok y x _ (hy.kp hk2) (hx.kp hk2)).mono ?_
    rintro e w7 ⟨rfl, hk7⟩
    go_wp2_with fail
    go_ret
    exact ⟨ret_bool (by rw [H.out]; simp), hk2.trans hk7⟩
  | false =>
    rw [hc] at H
    clear hc
    go_wp2_with fail
    go_ret
    exact ⟨ret_bool (by rw [H.out]; simp), hk2⟩

/-- is d in x? -/
def hasI (x : RI) (d : RD) : Bool := decide (x.lo.iv ≤ d.iv) && decide (d.iv ≤ x.hi.iv)
theorem keep73 {w w' : World} (k : Kp w w') {p0 p1 p2 p3 p4 p5 p6 q0 q1 q2 : Addr} {v0 v1 v2 v3 v4 v5 v6 u0 u1 u2 : Value}
    (h : (w.cell? p0 = some v0 ∧ w.cell? p1 = some v1 ∧ w.cell? p2 = some v2 ∧ w.cell? p3 = some v3 ∧ w.cell? p4 = some v4 ∧ w.cell? p5 = some v5 ∧ w.cell? p6 = some v6) ∧ w.cell? q0 = some u0 ∧ w.cell? q1 = some u1 ∧ w.cell? q2 = some u2) :
    (w'.cell? p0 = some v0 ∧ w'.cell? p1 = some v1 ∧ w'.cell? p2 = some v2 ∧ w'.cell? p3 = some v3 ∧ w'.cell? p4 = some v4 ∧ w'.cell? p5 = some v5 ∧ w'.cell? p6 = some v6) ∧ w'.cell? q0 = some u0 ∧ w'.cell? q1 = some u1 ∧ w'.cell? q2 = some u2 :=
  ⟨keep7 k h.1, keep3 k h.2⟩
theorem Valid_rok (x : RD) (w : World) (h : x.ok w) :
    Calls Tryz.prog 25 #[.agg #[.bool x.neg, .slice x.a x.xs.length x.c, .int .i64 x.e]] w fun e w' => e = .returned (.bool true) ∧ Kp w w' := by
  have H := Valid_raw x w h.1
  rwa [h.2] at H
set_option maxHeartbeats 4000000 in
theorem Has_ok (x : RI) (d : RD) (w : World) (hx : x.ok w) (hd : d.ok w) :
    Calls Tryz.prog 70 #[.agg #[.bool x.lo.neg, .slice x.lo.a x.lo.xs.length x.lo.c, .int .i64 x.lo.e, .bool x.hi.neg, .slice x.hi.a x.hi.xs.length x.hi.c, .int .i64 x.hi.e, .bool false], .agg #[.bool d.neg, .slice d.a d.xs.length d.c, .int .i64 d.e]] w fun e w' => e = .returned (.bool (hasI x d)) ∧ Kp w w' := by
  have H := Lib.hid (show hasI x d = (decide (cmpZ x.lo.iv d.iv ≤ 0) && decide (cmpZ d.iv x.hi.iv ≤ 0)) by rw [leZ, leZ]; rfl)
  go_enter Tryz.func70, Tryz.ntmps70
  go_wp2_with fail
  generalize hW : ((w.alloc _).alloc _) = W at *
  have hk : Kp w W := hW ▸ ((Kp.refl w).alloc _).alloc _
  have hS : (W.cell? ⟨w.heap.size, 0, none⟩ = some (.bool x.lo.neg) ∧ W.cell? ⟨w.heap.size, 1, none⟩ = some (.slice x.lo.a x.lo.xs.length x.lo.c) ∧ W.cell? ⟨w.heap.size, 2, none⟩ = some (.int .i64 x.lo.e) ∧ W.cell? ⟨w.heap.size, 3, none⟩ = some (.bool x.hi.neg) ∧ W.cell? ⟨w.heap.size, 4, none⟩ = some (.slice x.hi.a x.hi.xs.length x.hi.c) ∧ W.cell? ⟨w.heap.size, 5, none⟩ = some (.int .i64 x.hi.e) ∧ W.cell? ⟨w.heap.size, 6, none⟩ = some (.bool false)) ∧ W.cell? ⟨w.heap.size + 1, 0, none⟩ = some (.bool d.neg) ∧ W.cell? ⟨w.heap.size + 1, 1, none⟩ = some (.slice d.a d.xs.length d.c) ∧ W.cell? ⟨w.heap.size + 1, 2, none⟩ = some (.int .i64 d.e) := by rw [← hW]; simp
  clear hW
  refine (IValid_ok x _ (hx.kp hk)).mono ?_
  rintro e w1 ⟨rfl, hk1⟩
  have hS1 := keep73 hk1 hS
  have hk2 := hk.trans hk1
  clear hS hk hk1
  go_wp2_with fail
  refine (Valid_rok d _ (hd.kp hk2)).mono ?_
  rintro e w3 ⟨rfl, hk3⟩
  have hS2 := keep73 hk3 hS1
  have hk4 := hk2.trans hk3
  clear hS1 hk2 hk3
  go_wp2_with fail
  refine (Cmp_rok x.lo d _ (hx.lo.kp hk4) (hd.kp hk4)).mono ?_
  rintro e w5 ⟨rfl, hk5⟩
  have hS3 := keep73 hk5 hS2
  have hk6 := hk4.trans hk5
  clear hS2 hk4 hk5
  by_cases hc : cmpZ x.lo.iv d.iv ≤ 0
  · have hd2 := decide_eq_true hc
    rw [hd2] at H
    clear hc
    go_wp2_with fail
    refine (Cmp_rok d x.hi _ (hd.kp hk6) (hx.hi.kp hk6)).mono ?_
    rintro e w7 ⟨rfl, hk7⟩
    go_wp2_with fail
    go_ret
    exact ⟨ret_bool (by rw [H.out]; simp), hk6.trans hk7⟩
  · have hd2 := decide_eq_false hc
    rw [hd2] at H
    clear hc
    go_wp2_with fail
    go_ret
    exact ⟨ret_bool (by rw [H.out]; simp), hk6⟩
end Go.Proofs.YtkohlmlmoapedaaGreatDoor
