/-
  Numbers and intervals as they come, valid or not; dyadic.Valid, Cmp of these.
  Walks: interval.Valid.
  Walks: interval.Inside, Interior, Equal, of valid intervals other than All.
-/
import Derived.Test.YtkkiinbgjjjcoaaGreatDoorMSign
section
namespace Go.Proofs.YtkkiinbgjjjcoaaGreatDoor
open Go.RowKit

/-- the fields of a number, valid or not -/
structure RD where
  neg : Bool
  a : Option Addr
  xs : List Nat
  c : Nat
  e : Int
/-- it can be read -/
def RD.rd (w : World) (x : RD) : Prop := Rd w x.a x.xs ∧ x.xs.length ≤ x.c ∧ x.c ≤ maxLen ∧ x.xs.length ≤ 1100000 ∧ I64 x.e
theorem RD.rd.kp {w w' : World} {x : RD} (h : x.rd w) (k : Kp w w') : x.rd w' := ⟨h.1.kp k, h.2⟩
theorem RD.rd.drew {w : World} {x : RD} (h : x.rd w) : x.rd w.drew := h.kp (Kp.refl w).drew
/-- is it valid? -/
def RD.vl (x : RD) : Bool := vld x.neg x.xs x.e
/-- the number -/
def RD.dy (x : RD) : Dy := ⟨x.neg, val x.xs, x.e⟩
/-- its value, in steps of 2^-16384 -/
def RD.iv (x : RD) : Int := x.dy.iv
theorem RD.limbs {w : World} {x : RD} (h : x.rd w) (hv : x.vl = true) : limbs x.dy.m = x.xs := (vld_ok h.1.lt32 hv).2.1
theorem RD.at {w : World} {x : RD} (h : x.rd w) (hv : x.vl = true) : DyAt w x.dy x.a x.c := by
  have h1 := vld_ok h.1.lt32 hv
  have h2 := RD.limbs h hv
  exact ⟨h1.1, by rw [h2]; exact h.1, by rw [h2]; exact h.2.1, h.2.2.1⟩

theorem Valid_raw (x : RD) (w : World) (h : x.rd w) :
    Calls Tryz.prog 58 #[.agg #[.bool x.neg, .slice x.a x.xs.length x.c, .int .i64 x.e]] w fun e w' => e = .returned (.bool x.vl) ∧ Kp w w' :=
  Valid_any x.neg x.a x.xs x.c x.e w h.1 h.2.1 h.2.2.1 h.2.2.2.1 h.2.2.2.2
theorem Cmp_raw (x y : RD) (w : World) (hx : x.rd w) (hy : y.rd w) (vx : x.vl = true) (vy : y.vl = true) :
    Calls Tryz.prog 33 #[.agg #[.bool x.neg, .slice x.a x.xs.length x.c, .int .i64 x.e], .agg #[.bool y.neg, .slice y.a y.xs.length y.c, .int .i64 y.e]] w fun e w' => e = .returned (.int .i64 (cmpZ x.iv y.iv)) ∧ Kp w w' := by
  have H := Cmp_ok x.dy y.dy x.a y.a x.c y.c w (RD.at hx vx) (RD.at hy vy)
  rw [RD.limbs hx vx, RD.limbs hy vy] at H
  exact H

/-- the fields of an interval, valid or not -/
structure RI where
  lo : RD
  hi : RD
  all : Bool
def RI.rd (w : World) (x : RI) : Prop := x.lo.rd w ∧ x.hi.rd w
theorem RI.rd.kp {w w' : World} {x : RI} (h : x.rd w) (k : Kp w w') : x.rd w' := ⟨h.1.kp k, h.2.kp k⟩
theorem RI.rd.drew {w : World} {x : RI} (h : x.rd w) : x.rd w.drew := h.kp (Kp.refl w).drew
/-- are all fields 0? -/
def RD.zr (x : RD) : Bool := !x.neg && (decide (x.xs.length = 0) && decide (x.e = 0))
/-- is an interval valid? -/
def RI.vl (x : RI) : Bool := if x.all then x.lo.zr && x.hi.zr else x.lo.vl && (x.hi.vl && decide (cmpZ x.lo.iv x.hi.iv ≤ 0))

end Go.Proofs.YtkkiinbgjjjcoaaGreatDoor
end

section
namespace Go.Proofs.YtkkiinbgjjjcoaaGreatDoor
open Go.RowKit

theorem keep7 {w w' : World} (k : Kp w w') {p0 p1 p2 p3 p4 p5 p6 : Addr} {v0 v1 v2 v3 v4 v5 v6 : Value} (h : w.cell? p0 = some v0 ∧ w.cell? p1 = some v1 ∧ w.cell? p2 = some v2 ∧ w.cell? p3 = some v3 ∧ w.cell? p4 = some v4 ∧ w.cell? p5 = some v5 ∧ w.cell? p6 = some v6) : w'.cell? p0 = some v0 ∧ w'.cell? p1 = some v1 ∧ w'.cell? p2 = some v2 ∧ w'.cell? p3 = some v3 ∧ w'.cell? p4 = some v4 ∧ w'.cell? p5 = some v5 ∧ w'.cell? p6 = some v6 :=
  let ⟨h0, h1, h2, h3, h4, h5, h6⟩ := h
  ⟨k.cell h0, k.cell h1, k.cell h2, k.cell h3, k.cell h4, k.cell h5, k.cell h6⟩

end Go.Proofs.YtkkiinbgjjjcoaaGreatDoor
end

section
namespace Go.Proofs.YtkkiinbgjjjcoaaGreatDoor
open Go.RowKit

/-- a valid interval other than All -/
def RI.ok (w : World) (x : RI) : Prop := x.rd w ∧ x.all = false ∧ x.vl = true
theorem RI.ok.kp {w w' : World} {x : RI} (h : x.ok w) (k : Kp w w') : x.ok w' := ⟨h.1.kp k, h.2⟩
theorem RI.ok.drew {w : World} {x : RI} (h : x.ok w) : x.ok w.drew := h.kp (Kp.refl w).drew
theorem RI.ok.parts {w : World} {x : RI} (h : x.ok w) : x.lo.vl = true ∧ x.hi.vl = true ∧ x.lo.iv ≤ x.hi.iv := by
  obtain ⟨_, h1, h2⟩ := h
  unfold RI.vl at h2
  rw [h1] at h2
  simp only [Bool.false_eq_true, if_false, Bool.and_eq_true, decide_eq_true_eq] at h2
  refine ⟨h2.1, h2.2.1, ?_⟩
  have := h2.2.2
  have h3 := @cmpZ_gt x.lo.iv x.hi.iv
  omega
/-- a number that is valid -/
def RD.ok (w : World) (x : RD) : Prop := x.rd w ∧ x.vl = true
theorem RD.ok.kp {w w' : World} {x : RD} (h : x.ok w) (k : Kp w w') : x.ok w' := ⟨h.1.kp k, h.2⟩
theorem RI.ok.lo {w : World} {x : RI} (h : x.ok w) : x.lo.ok w := ⟨h.1.1, h.parts.1⟩
theorem RI.ok.hi {w : World} {x : RI} (h : x.ok w) : x.hi.ok w := ⟨h.1.2, h.parts.2.1⟩
theorem Cmp_rok (x y : RD) (w : World) (hx : x.ok w) (hy : y.ok w) :
    Calls Tryz.prog 33 #[.agg #[.bool x.neg, .slice x.a x.xs.length x.c, .int .i64 x.e], .agg #[.bool y.neg, .slice y.a y.xs.length y.c, .int .i64 y.e]] w fun e w' => e = .returned (.int .i64 (cmpZ x.iv y.iv)) ∧ Kp w w' := Cmp_raw x y w hx.1 hy.1 hx.2 hy.2
theorem keep77 {w w' : World} (k : Kp w w') {p0 p1 p2 p3 p4 p5 p6 q0 q1 q2 q3 q4 q5 q6 : Addr} {v0 v1 v2 v3 v4 v5 v6 u0 u1 u2 u3 u4 u5 u6 : Value}
    (h : (w.cell? p0 = some v0 ∧ w.cell? p1 = some v1 ∧ w.cell? p2 = some v2 ∧ w.cell? p3 = some v3 ∧ w.cell? p4 = some v4 ∧ w.cell? p5 = some v5 ∧ w.cell? p6 = some v6) ∧ w.cell? q0 = some u0 ∧ w.cell? q1 = some u1 ∧ w.cell? q2 = some u2 ∧ w.cell? q3 = some u3 ∧ w.cell? q4 = some u4 ∧ w.cell? q5 = some u5 ∧ w.cell? q6 = some u6) :
    (w'.cell? p0 = some v0 ∧ w'.cell? p1 = some v1 ∧ w'.cell? p2 = some v2 ∧ w'.cell? p3 = some v3 ∧ w'.cell? p4 = some v4 ∧ w'.cell? p5 = some v5 ∧ w'.cell? p6 = some v6) ∧ w'.cell? q0 = some u0 ∧ w'.cell? q1 = some u1 ∧ w'.cell? q2 = some u2 ∧ w'.cell? q3 = some u3 ∧ w'.cell? q4 = some u4 ∧ w'.cell? q5 = some u5 ∧ w'.cell? q6 = some u6 :=
  ⟨keep7 k h.1, keep7 k h.2⟩
theorem leZ (x y : Int) : decide (cmpZ x y ≤ 0) = decide (x ≤ y) := by
  have := @cmpZ_gt x y
  by_cases h : x ≤ y
  · rw [decide_eq_true h, decide_eq_true (by omega)]
  · rw [decide_eq_false h, decide_eq_false (by omega)]
theorem ltZ (x y : Int) : decide (cmpZ x y < 0) = decide (x < y) := by
  have := @cmpZ_lt x y
  by_cases h : x < y
  · rw [decide_eq_true h, decide_eq_true (by omega)]
  · rw [decide_eq_false h, decide_eq_false (by omega)]
theorem geZ (x y : Int) : decide (0 ≤ cmpZ x y) = decide (y ≤ x) := by
  have := @cmpZ_lt x y
  by_cases h : y ≤ x
  · rw [decide_eq_true h, decide_eq_true (by omega)]
  · rw [decide_eq_false h, decide_eq_false (by omega)]
theorem gtZ (x y : Int) : decide (0 < cmpZ x y) = decide (y < x) := by
  have := @cmpZ_gt x y
  by_cases h : y < x
  · rw [decide_eq_true h, decide_eq_true (by omega)]
  · rw [decide_eq_false h, decide_eq_false (by omega)]

/-- is x in y? -/
def insI (x y : RI) : Bool := decide (y.lo.iv ≤ x.lo.iv) && decide (x.hi.iv ≤ y.hi.iv)
/-- is x in y? -/
def intI (x y : RI) : Bool := decide (y.lo.iv < x.lo.iv) && decide (x.hi.iv < y.hi.iv)
/-- are x and y the same? -/
def eqI (x y : RI) : Bool := insI x y && insI y x
/-- is d in x? -/
def hasI (x : RI) (d : RD) : Bool := decide (x.lo.iv ≤ d.iv) && decide (d.iv ≤ x.hi.iv)
theorem keep73 {w w' : World} (k : Kp w w') {p0 p1 p2 p3 p4 p5 p6 q0 q1 q2 : Addr} {v0 v1 v2 v3 v4 v5 v6 u0 u1 u2 : Value}
    (h : (w.cell? p0 = some v0 ∧ w.cell? p1 = some v1 ∧ w.cell? p2 = some v2 ∧ w.cell? p3 = some v3 ∧ w.cell? p4 = some v4 ∧ w.cell? p5 = some v5 ∧ w.cell? p6 = some v6) ∧ w.cell? q0 = some u0 ∧ w.cell? q1 = some u1 ∧ w.cell? q2 = some u2) :
    (w'.cell? p0 = some v0 ∧ w'.cell? p1 = some v1 ∧ w'.cell? p2 = some v2 ∧ w'.cell? p3 = some v3 ∧ w'.cell? p4 = some v4 ∧ w'.cell? p5 = some v5 ∧ w'.cell? p6 = some v6) ∧ w'.cell? q0 = some u0 ∧ w'.cell? q1 = some u1 ∧ w'.cell? q2 = some u2 :=
  ⟨keep7 k h.1, keep3 k h.2⟩
theorem Valid_rok (x : RD) (w : World) (h : x.ok w) :
    Calls Tryz.prog 58 #[.agg #[.bool x.neg, .slice x.a x.xs.length x.c, .int .i64 x.e]] w fun e w' => e = .returned (.bool true) ∧ Kp w w' := by
  have H := Valid_raw x w h.1
  rwa [h.2] at H
end Go.Proofs.YtkkiinbgjjjcoaaGreatDoor
end
