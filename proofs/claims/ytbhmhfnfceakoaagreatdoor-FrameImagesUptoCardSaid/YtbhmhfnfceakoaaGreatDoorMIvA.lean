/-
  Walks: interval.Valid.
-/
import Derived.Test.YtbhmhfnfceakoaaGreatDoorMDyB
import Derived.Test.YtbhmhfnfceakoaaGreatDoorMNum
import Derived.Deep.AppendLies
import Derived.Test.YtbhmhfnfceakoaaGreatDoorRows
import Derived.Deep.Slices
import Derived.ChangeArms
import Derived.OpenShut
import Derived.OpenVars
import Derived.ProofKit
import Derived.Test.YtbhmhfnfceakoaaGreatDoorCards
import Derived.Test.YtbhmhfnfceakoaaGreatDoorTie
import Derived.Test.YtbhmhfnfceakoaaGreatDoorMDy
import Derived.WideKeyArgs
import Derived.WalkKit
import Derived.Below
import Derived.ChangeSame
import Derived.Deep.DeepHandedRow
import Derived.Lib.LaidTab
namespace Go.Proofs.YtbhmhfnfceakoaaGreatDoor
open Go.RowKit
theorem keep7 {w w' : World} (k : Kp w w') {p0 p1 p2 p3 p4 p5 p6 : Addr} {v0 v1 v2 v3 v4 v5 v6 : Value} (h : w.cell? p0 = some v0 ∧ w.cell? p1 = some v1 ∧ w.cell? p2 = some v2 ∧ w.cell? p3 = some v3 ∧ w.cell? p4 = some v4 ∧ w.cell? p5 = some v5 ∧ w.cell? p6 = some v6) : w'.cell? p0 = some v0 ∧ w'.cell? p1 = some v1 ∧ w'.cell? p2 = some v2 ∧ w'.cell? p3 = some v3 ∧ w'.cell? p4 = some v4 ∧ w'.cell? p5 = some v5 ∧ w'.cell? p6 = some v6 :=
  let ⟨h0, h1, h2, h3, h4, h5, h6⟩ := h
  ⟨k.cell h0, k.cell h1, k.cell h2, k.cell h3, k.cell h4, k.cell h5, k.cell h6⟩

set_option maxHeartbeats 4000000 in
theorem IValid_raw (x : RI) (w : World) (h : x.rd w) :
    Calls Tryz.prog 20 #[.agg #[.bool x.lo.neg, .slice x.lo.a x.lo.xs.length x.lo.c, .int .i64 x.lo.e, .bool x.hi.neg, .slice x.hi.a x.hi.xs.length x.hi.c, .int .i64 x.hi.e, .bool x.all]] w fun e w' => e = .returned (.bool x.vl) ∧ Kp w w' := by
  have H := Lib.hid (show x.vl = if x.all then x.lo.zr && x.hi.zr else x.lo.vl && (x.hi.vl && decide (cmpZ x.lo.iv x.hi.iv ≤ 0)) from rfl)
  go_enter Tryz.func20, Tryz.ntmps20
  cases ha : x.all with
  | true =>
    rw [ha] at H
    clear ha
    go_wp2_with fail
    refine (zero_raw x.lo _).mono ?_
    rintro e w1 ⟨rfl, hk1⟩
    have hS := keep7 hk1 (show (w.alloc (.cells #[.bool x.lo.neg, .slice x.lo.a x.lo.xs.length x.lo.c, .int .i64 x.lo.e, .bool x.hi.neg, .slice x.hi.a x.hi.xs.length x.hi.c, .int .i64 x.hi.e, .bool true] 44)).cell? ⟨w.heap.size, 0, none⟩ = some (.bool x.lo.neg) ∧ (w.alloc (.cells #[.bool x.lo.neg, .slice x.lo.a x.lo.xs.length x.lo.c, .int .i64 x.lo.e, .bool x.hi.neg, .slice x.hi.a x.hi.xs.length x.hi.c, .int .i64 x.hi.e, .bool true] 44)).cell? ⟨w.heap.size, 1, none⟩ = some (.slice x.lo.a x.lo.xs.length x.lo.c) ∧ (w.alloc (.cells #[.bool x.lo.neg, .slice x.lo.a x.lo.xs.length x.lo.c, .int .i64 x.lo.e, .bool x.hi.neg, .slice x.hi.a x.hi.xs.length x.hi.c, .int .i64 x.hi.e, .bool true] 44)).cell? ⟨w.heap.size, 2, none⟩ = some (.int .i64 x.lo.e) ∧ (w.alloc (.cells #[.bool x.lo.neg, .slice x.lo.a x.lo.xs.length x.lo.c, .int .i64 x.lo.e, .bool x.hi.neg, .slice x.hi.a x.hi.xs.length x.hi.c, .int .i64 x.hi.e, .bool true] 44)).cell? ⟨w.heap.size, 3, none⟩ = some (.bool x.hi.neg) ∧ (w.alloc (.cells #[.bool x.lo.neg, .slice x.lo.a x.lo.xs.length x.lo.c, .int .i64 x.lo.e, .bool x.hi.neg, .slice x.hi.a x.hi.xs.length x.hi.c, .int .i64 x.hi.e, .bool true] 44)).cell? ⟨w.heap.size, 4, none⟩ = some (.slice x.hi.a x.hi.xs.length x.hi.c) ∧ (w.alloc (.cells #[.bool x.lo.neg, .slice x.lo.a x.lo.xs.length x.lo.c, .int .i64 x.lo.e, .bool x.hi.neg, .slice x.hi.a x.hi.xs.length x.hi.c, .int .i64 x.hi.e, .bool true] 44)).cell? ⟨w.heap.size, 5, none⟩ = some (.int .i64 x.hi.e) ∧ (w.alloc (.cells #[.bool x.lo.neg, .slice x.lo.a x.lo.xs.length x.lo.c, .int .i64 x.lo.e, .bool x.hi.neg, .slice x.hi.a x.hi.xs.length x.hi.c, .int .i64 x.hi.e, .bool true] 44)).cell? ⟨w.heap.size, 6, none⟩ = some (.bool true) by simp)
    have hk2 := ((Kp.refl w).alloc _).trans hk1
    clear hk1
    cases hz : x.lo.zr with
    | false =>
      rw [hz] at H
      clear hz
      go_wp2_with fail
      go_ret
      exact ⟨ret_bool H.out.symm, hk2⟩
    | true =>
    rw [hz] at H
    clear hz
    go_wp2_with fail
    refine (zero_raw x.hi _).mono ?_
    rintro e w3 ⟨rfl, hk3⟩
    go_wp2_with fail
    go_ret
    exact ⟨ret_bool (by rw [H.out]; simp), hk2.trans hk3⟩
  | false =>
  rw [ha] at H
  clear ha
  go_wp2_with fail
  have hk0 := ((Kp.refl w).alloc (.cells #[.bool x.lo.neg, .slice x.lo.a x.lo.xs.length x.lo.c, .int .i64 x.lo.e, .bool x.hi.neg, .slice x.hi.a x.hi.xs.length x.hi.c, .int .i64 x.hi.e, .bool false] 44))
  refine (Valid_raw x.lo _ (h.1.kp hk0)).mono ?_
  rintro e w1 ⟨rfl, hk1⟩
  have hS := keep7 hk1 (show (w.alloc (.cells #[.bool x.lo.neg, .slice x.lo.a x.lo.xs.length x.lo.c, .int .i64 x.lo.e, .bool x.hi.neg, .slice x.hi.a x.hi.xs.length x.hi.c, .int .i64 x.hi.e, .bool false] 44)).cell? ⟨w.heap.size, 0, none⟩ = some (.bool x.lo.neg) ∧ (w.alloc (.cells #[.bool x.lo.neg, .slice x.lo.a x.lo.xs.length x.lo.c, .int .i64 x.lo.e, .bool x.hi.neg, .slice x.hi.a x.hi.xs.length x.hi.c, .int .i64 x.hi.e, .bool false] 44)).cell? ⟨w.heap.size, 1, none⟩ = some (.slice x.lo.a x.lo.xs.length x.lo.c) ∧ (w.alloc (.cells #[.bool x.lo.neg, .slice x.lo.a x.lo.xs.length x.lo.c, .int .i64 x.lo.e, .bool x.hi.neg, .slice x.hi.a x.hi.xs.length x.hi.c, .int .i64 x.hi.e, .bool false] 44)).cell? ⟨w.heap.size, 2, none⟩ = some (.int .i64 x.lo.e) ∧ (w.alloc (.cells #[.bool x.lo.neg, .slice x.lo.a x.lo.xs.length x.lo.c, .int .i64 x.lo.e, .bool x.hi.neg, .slice x.hi.a x.hi.xs.length x.hi.c, .int .i64 x.hi.e, .bool false] 44)).cell? ⟨w.heap.size, 3, none⟩ = some (.bool x.hi.neg) ∧ (w.alloc (.cells #[.bool x.lo.neg, .slice x.lo.a x.lo.xs.length x.lo.c, .int .i64 x.lo.e, .bool x.hi.neg, .slice x.hi.a x.hi.xs.length x.hi.c, .int .i64 x.hi.e, .bool false] 44)).cell? ⟨w.heap.size, 4, none⟩ = some (.slice x.hi.a x.hi.xs.length x.hi.c) ∧ (w.alloc (.cells #[.bool x.lo.neg, .slice x.lo.a x.lo.xs.length x.lo.c, .int .i64 x.lo.e, .bool x.hi.neg, .slice x.hi.a x.hi.xs.length x.hi.c, .int .i64 x.hi.e, .bool false] 44)).cell? ⟨w.heap.size, 5, none⟩ = some (.int .i64 x.hi.e) ∧ (w.alloc (.cells #[.bool x.lo.neg, .slice x.lo.a x.lo.xs.length x.lo.c, .int .i64 x.lo.e, .bool x.hi.neg, .slice x.hi.a x.hi.xs.length x.hi.c, .int .i64 x.hi.e, .bool false] 44)).cell? ⟨w.heap.size, 6, none⟩ = some (.bool false) by simp)
  have hk2 := hk0.trans hk1
  clear hk0 hk1
  cases hz : x.lo.vl with
  | false =>
    rw [hz] at H
    clear hz
    go_wp2_with fail
    go_ret
    exact ⟨ret_bool H.out.symm, hk2⟩
  | true =>
  rw [hz] at H
  have Hz := Lib.hid hz
  clear hz
  go_wp2_with fail
  refine (Valid_raw x.hi _ (h.2.kp hk2)).mono ?_
  rintro e w3 ⟨rfl, hk3⟩
  have hS2 := keep7 hk3 hS
  have hk4 := hk2.trans hk3
  clear hk2 hk3 hS
  cases hy : x.hi.vl with
  | false =>
    rw [hy] at H
    clear hy
    go_wp2_with fail
    go_ret
    exact ⟨ret_bool H.out.symm, hk4⟩
  | true =>
  rw [hy] at H
  have Hy := Lib.hid hy
  clear hy
  go_wp2_with fail
  refine (Cmp_raw x.lo x.hi _ (h.1.kp hk4) (h.2.kp hk4) Hz.out Hy.out).mono ?_
  rintro e w5 ⟨rfl, hk5⟩
  go_wp2_with fail
  go_ret
  exact ⟨ret_bool H.out.symm, hk4.trans hk5⟩
def RI.ok (w : World) (x : RI) : Prop := x.rd w ∧ x.all = false ∧ x.vl = true
theorem RI.ok.kp {w w' : World} {x : RI} (h : x.ok w) (k : Kp w w') : x.ok w' := ⟨h.1.kp k, h.2⟩
theorem RI.ok.drew {w : World} {x : RI} (h : x.ok w) : x.ok w.drew := h.kp (Kp.refl w).drew
theorem RI.ok.parts {w : World} {x : RI} (h : x.ok w) : x.lo.vl = true ∧ x.hi.vl = true ∧ x.lo.iv ≤ x.hi.iv := by
  obtain ⟨_, h1, h2⟩ := h
  unfold RI.vl at h2
  rw [h1] at h2
  simp only [Bool.false_eq_true, if_false, Bool.and_eq_true, decide_eq_true_eq] at h2
  refine ⟨h2.1, h2.2.1, ?_⟩
  have := h2.2.2
  have h3 := @cmpZ_gt x.lo.iv x.hi.iv
  omega
def RD.ok (w : World) (x : RD) : Prop := x.rd w ∧ x.vl = true
theorem RD.ok.kp {w w' : World} {x : RD} (h : x.ok w) (k : Kp w w') : x.ok w' := ⟨h.1.kp k, h.2⟩
theorem RI.ok.lo {w : World} {x : RI} (h : x.ok w) : x.lo.ok w := ⟨h.1.1, h.parts.1⟩
theorem RI.ok.hi {w : World} {x : RI} (h : x.ok w) : x.hi.ok w := ⟨h.1.2, h.parts.2.1⟩
theorem Cmp_rok (x y : RD) (w : World) (hx : x.ok w) (hy : y.ok w) :
    Calls Tryz.prog 68 #[.agg #[.bool x.neg, .slice x.a x.xs.length x.c, .int .i64 x.e], .agg #[.bool y.neg, .slice y.a y.xs.length y.c, .int .i64 y.e]] w fun e w' => e = .returned (.int .i64 (cmpZ x.iv y.iv)) ∧ Kp w w' := Cmp_raw x y w hx.1 hy.1 hx.2 hy.2
theorem IValid_ok (x : RI) (w : World) (h : x.ok w) :
    Calls Tryz.prog 20 #[.agg #[.bool x.lo.neg, .slice x.lo.a x.lo.xs.length x.lo.c, .int .i64 x.lo.e, .bool x.hi.neg, .slice x.hi.a x.hi.xs.length x.hi.c, .int .i64 x.hi.e, .bool false]] w fun e w' => e = .returned (.bool true) ∧ Kp w w' := by
  have H := IValid_raw x w h.1
  rwa [h.2.1, h.2.2] at H
theorem keep77 {w w' : World} (k : Kp w w') {p0 p1 p2 p3 p4 p5 p6 q0 q1 q2 q3 q4 q5 q6 : Addr} {v0 v1 v2 v3 v4 v5 v6 u0 u1 u2 u3 u4 u5 u6 : Value}
    (h : (w.cell? p0 = some v0 ∧ w.cell? p1 = some v1 ∧ w.cell? p2 = some v2 ∧ w.cell? p3 = some v3 ∧ w.cell? p4 = some v4 ∧ w.cell? p5 = some v5 ∧ w.cell? p6 = some v6) ∧ w.cell? q0 = some u0 ∧ w.cell? q1 = some u1 ∧ w.cell? q2 = some u2 ∧ w.cell? q3 = some u3 ∧ w.cell? q4 = some u4 ∧ w.cell? q5 = some u5 ∧ w.cell? q6 = some u6) :
    (w'.cell? p0 = some v0 ∧ w'.cell? p1 = some v1 ∧ w'.cell? p2 = some v2 ∧ w'.cell? p3 = some v3 ∧ w'.cell? p4 = some v4 ∧ w'.cell? p5 = some v5 ∧ w'.cell? p6 = some v6) ∧ w'.cell? q0 = some u0 ∧ w'.cell? q1 = some u1 ∧ w'.cell? q2 = some u2 ∧ w'.cell? q3 = some u3 ∧ w'.cell? q4 = some u4 ∧ w'.cell? q5 = some u5 ∧ w'.cell? q6 = some u6 :=
  ⟨keep7 k h.1, keep7 k h.2⟩
theorem leZ (x y : Int) : decide (cmpZ x y ≤ 0) = decide (x ≤ y) := by
  have := @cmpZ_gt x y
  by_cases h : x ≤ y
  · rw [decide_eq_true h, decide_eq_true (by omega)]
  rw [decide_eq_false h, decide_eq_false (by omega)]
def hasI (x : RI) (d : RD) : Bool := decide (x.lo.iv ≤ d.iv) && decide (d.iv ≤ x.hi.iv)
theorem keep73 {w w' : World} (k : Kp w w') {p0 p1 p2 p3 p4 p5 p6 q0 q1 q2 : Addr} {v0 v1 v2 v3 v4 v5 v6 u0 u1 u2 : Value}
    (h : (w.cell? p0 = some v0 ∧ w.cell? p1 = some v1 ∧ w.cell? p2 = some v2 ∧ w.cell? p3 = some v3 ∧ w.cell? p4 = some v4 ∧ w.cell? p5 = some v5 ∧ w.cell? p6 = some v6) ∧ w.cell? q0 = some u0 ∧ w.cell? q1 = some u1 ∧ w.cell? q2 = some u2) :
    (w'.cell? p0 = some v0 ∧ w'.cell? p1 = some v1 ∧ w'.cell? p2 = some v2 ∧ w'.cell? p3 = some v3 ∧ w'.cell? p4 = some v4 ∧ w'.cell? p5 = some v5 ∧ w'.cell? p6 = some v6) ∧ w'.cell? q0 = some u0 ∧ w'.cell? q1 = some u1 ∧ w'.cell? q2 = some u2 :=
  ⟨keep7 k h.1, keep3 k h.2⟩
theorem Valid_rok (x : RD) (w : World) (h : x.ok w) :
    Calls Tryz.prog 56 #[.agg #[.bool x.neg, .slice x.a x.xs.length x.c, .int .i64 x.e]] w fun e w' => e = .returned (.bool true) ∧ Kp w w' := by
  have H := Valid_raw x w h.1
  rwa [h.2] at H
set_option maxHeartbeats 4000000 in
theorem Has_ok (x : RI) (d : RD) (w : World) (hx : x.ok w) (hd : d.ok w) :
    Calls Tryz.prog 88 #[.agg #[.bool x.lo.neg, .slice x.lo.a x.lo.xs.length x.lo.c, .int .i64 x.lo.e, .bool x.hi.neg, .slice x.hi.a x.hi.xs.length x.hi.c, .int .i64 x.hi.e, .bool false], .agg #[.bool d.neg, .slice d.a d.xs.length d.c, .int .i64 d.e]] w fun e w' => e = .returned (.bool (hasI x d)) ∧ Kp w w' := by
  have H := Lib.hid (show hasI x d = (decide (cmpZ x.lo.iv d.iv ≤ 0) && decide (cmpZ d.iv x.hi.iv ≤ 0)) by rw [leZ, leZ]; rfl)
  go_enter Tryz.func88, Tryz.ntmps88
  go_wp2_with fail
  generalize hW : ((w.alloc _).alloc _) = W at *
  have hk : Kp w W := hW ▸ ((Kp.refl w).alloc _).alloc _
  have hS : (W.cell? ⟨w.heap.size, 0, none⟩ = some (.bool x.lo.neg) ∧ W.cell? ⟨w.heap.size, 1, none⟩ = some (.slice x.lo.a x.lo.xs.length x.lo.c) ∧ W.cell? ⟨w.heap.size, 2, none⟩ = some (.int .i64 x.lo.e) ∧ W.cell? ⟨w.heap.size, 3, none⟩ = some (.bool x.hi.neg) ∧ W.cell? ⟨w.heap.size, 4, none⟩ = some (.slice x.hi.a x.hi.xs.length x.hi.c) ∧ W.cell? ⟨w.heap.size, 5, none⟩ = some (.int .i64 x.hi.e) ∧ W.cell? ⟨w.heap.size, 6, none⟩ = some (.bool false)) ∧ W.cell? ⟨w.heap.size + 1, 0, none⟩ = some (.bool d.neg) ∧ W.cell? ⟨w.heap.size + 1, 1, none⟩ = some (.slice d.a d.xs.length d.c) ∧ W.cell? ⟨w.heap.size + 1, 2, none⟩ = some (.int .i64 d.e) := by rw [← hW]; simp
  clear hW
  refine (IValid_ok x _ (hx.kp hk)).mono ?_
  rintro e w1 ⟨rfl, hk1⟩
  have hS1 := keep73 hk1 hS
  have hk2 := hk.trans hk1
  clear hS hk hk1
  go_wp2_with fail
  refine (Valid_rok d _ (hd.kp hk2)).mono ?_
  rintro e w3 ⟨rfl, hk3⟩
  have hS2 := keep73 hk3 hS1
  have hk4 := hk2.trans hk3
  clear hS1 hk2 hk3
  go_wp2_with fail
  refine (Cmp_rok x.lo d _ (hx.lo.kp hk4) (hd.kp hk4)).mono ?_
  rintro e w5 ⟨rfl, hk5⟩
  have hS3 := keep73 hk5 hS2
  have hk6 := hk4.trans hk5
  clear hS2 hk4 hk5
  by_cases hc : cmpZ x.lo.iv d.iv ≤ 0
  · have hd2 := decide_eq_true hc
    rw [hd2] at H
    clear hc
    go_wp2_with fail
    refine (Cmp_rok d x.hi _ (hd.kp hk6) (hx.hi.kp hk6)).mono ?_
    rintro e w7 ⟨rfl, hk7⟩
    go_wp2_with fail
    go_ret
    exact ⟨ret_bool (by rw [H.out]; simp), hk6.trans hk7⟩
  have hd2 := decide_eq_false hc
  rw [hd2] at H
  clear hc
  go_wp2_with fail
  go_ret
  exact ⟨ret_bool (by rw [H.out]; simp), hk6⟩
def RowD (w : World) (a : Option Addr) (zs : List RD) : Prop :=
  ∀ i x, zs[i]? = some x → ∃ b o, a = some ⟨b, o, none⟩ ∧ x.rd w ∧ w.cell? ⟨b, o + i * 3, none⟩ = some (.bool x.neg) ∧ w.cell? ⟨b, o + i * 3 + 1, none⟩ = some (.slice x.a x.xs.length x.c) ∧ w.cell? ⟨b, o + i * 3 + 2, none⟩ = some (.int .i64 x.e)
theorem RowD.kp {w w' : World} {a : Option Addr} {zs : List RD} (h : RowD w a zs) (k : Kp w w') : RowD w' a zs := by
  intro i x hi
  obtain ⟨b, o, rfl, hr, h0, h1, h2⟩ := h i x hi
  exact ⟨b, o, rfl, hr.kp k, k.cell h0, k.cell h1, k.cell h2⟩
def firstD (p : RD → Bool) (zs : List RD) : Int := match zs.findIdx? p with | some i => (i : Int) | none => -1
theorem firstD_some {p : RD → Bool} {zs : List RD} {k : Nat} {x : RD} (hk : zs[k]? = some x) (hp : p x = true) (h : ∀ i y, zs[i]? = some y → i < k → p y = false) : firstD p zs = k := by
  unfold firstD
  have : zs.findIdx? p = some k := by
    rw [List.findIdx?_eq_some_iff_getElem]
    obtain ⟨h1, h2⟩ := List.getElem?_eq_some_iff.1 hk
    refine ⟨h1, by rw [h2]; exact hp, fun j hj => ?_⟩
    rw [h j _ (List.getElem?_eq_getElem (by omega)) hj]; decide
  rw [this]
theorem firstD_none {p : RD → Bool} {zs : List RD} (h : ∀ (i : Nat) (y : RD), zs[i]? = some y → p y = false) : firstD p zs = -1 := by
  unfold firstD
  have : zs.findIdx? p = none := by
    rw [List.findIdx?_eq_none_iff]
    intro y hy
    obtain ⟨i, hi⟩ := List.getElem?_of_mem hy
    exact h i y hi
  rw [this]
theorem firstD_any (p : RD → Bool) (zs : List RD) : decide (0 ≤ firstD p zs) = zs.any p := by
  unfold firstD
  cases h : zs.findIdx? p with
  | none =>
    have hm := List.findIdx?_eq_none_iff.1 h
    have : zs.any p = false := by rw [List.any_eq_false]; intro y hy; rw [hm y hy]; decide
    rw [this]; decide
  | some i =>
  have hm := List.findIdx?_eq_some_iff_getElem.1 h
  obtain ⟨h1, h2, _⟩ := hm
  have : zs.any p = true := List.any_eq_true.2 ⟨_, List.getElem_mem h1, h2⟩
  rw [this]; simp
def AnsD (P : Program) (g : FuncId) (cap : Array Value) (w : World) (zs : List RD) (p : RD → Bool) : Prop :=
  Enters P g ∧ ∀ x, x ∈ zs → ∀ w1, Kp w w1 → Calls P g (#[.agg #[.bool x.neg, .slice x.a x.xs.length x.c, .int .i64 x.e]] ++ cap) w1 fun e w2 => e = .returned (.bool (p x)) ∧ Kp w1 w2

set_option maxHeartbeats 4000000 in
theorem idxD (a : Option Addr) (zs : List RD) (c : Nat) (g : FuncId) (cap : Array Value) (w : World) (p : RD → Bool) (hm : zs.length ≤ 1100000) (h : RowD w a zs) (hp : AnsD Tryz.prog g cap w zs p) :
    Calls Tryz.prog 156 #[.slice a zs.length c, .func (.func g) #[] cap] w fun e w' => e = .returned (.int .i64 (firstD p zs)) ∧ Kp w w' := by
  go_enter Tryz.func156, Tryz.ntmps156
  go_wp2
  go_loopw [8] (fun x wr => ∃ k : Nat, k ≤ zs.length ∧ x = .int .i64 k ∧ (∀ i y, zs[i]? = some y → i < k → p y = false) ∧ Kp w wr) (fun x _ => zs.length - (intOf x).toNat)
  case atStart => exact ⟨0, by omega, rfl, fun i y _ h1 => by omega, .refl _⟩
  case round =>
  obtain ⟨k, hk, rfl, hz, hkp⟩ := hrel
  have Hz := Lib.hid hz; clear hz
  by_cases hlt : k < zs.length
  rotate_left
  · have Hthis := Lib.hid (firstD_none (p := p) (zs := zs) (fun i y hy => Hz.out i y hy (by have := (List.getElem?_eq_some_iff.1 hy).1; omega)))
    go_wp2
    go_ret
    exact ⟨ret_int Hthis.out.symm, hkp⟩
  obtain ⟨b, o, rfl, hr, h0, h1, h2⟩ := (h.kp hkp) k (zs[k]) (List.getElem?_eq_getElem hlt)
  have Hg := Lib.hid (List.getElem?_eq_getElem hlt)
  have hgo : ∀ args w, (callFunc g args).run Tryz.prog w = .ok (.enter g args) w := hp.1
  have hcall := hp.2 _ (List.getElem_mem hlt) wr hkp
  clear hp h
  generalize zs[k] = x at *
  cases hq : p x with
  | true =>
    rw [hq] at hcall
    have Hc := Lib.hid hcall
    have Hq := Lib.hid (firstD_some Hg.out hq Hz.out)
    clear hcall hq
    go_wp2_with (refine Hc.out.mono ?_; rintro e w2 ⟨rfl, hk2⟩)
    go_ret
    exact ⟨ret_int Hq.out.symm, hkp.trans hk2⟩
  | false =>
  rw [hq] at hcall
  have Hc := Lib.hid hcall
  have Hq := Lib.hid hq
  clear hcall hq
  go_wp2_with (refine Hc.out.mono ?_; rintro e w2 ⟨rfl, hk2⟩)
  go_roundw
  case measure => simp [intOf]; omega
  case rel =>
  refine ⟨k + 1, by omega, by go_num, fun i y hy hi => ?_, hkp.trans hk2⟩
  by_cases h : i = k
  · subst h; rw [Hg.out] at hy; cases hy; exact Hq.out
  exact Hz.out i y hy (by omega)
set_option maxHeartbeats 400000 in
theorem containsD (a : Option Addr) (zs : List RD) (c : Nat) (g : FuncId) (cap : Array Value) (w : World) (p : RD → Bool) (hm : zs.length ≤ 1100000) (h : RowD w a zs) (hp : AnsD Tryz.prog g cap w zs p) :
    Calls Tryz.prog 84 #[.slice a zs.length c, .func (.func g) #[] cap] w fun e w' => e = .returned (.bool (zs.any p)) ∧ Kp w w' := by
  have Hc := Lib.hid (idxD a zs c g cap w p hm h hp)
  have Ha := Lib.hid (firstD_any p zs)
  clear hp h
  go_enter Tryz.func84, Tryz.ntmps84
  go_wp2_with (refine Hc.out.mono ?_; rintro e w2 ⟨rfl, hk2⟩)
  go_ret
  exact ⟨by rw [← Ha.out]; rfl, hk2⟩
def RowI (w : World) (a : Option Addr) (zs : List RI) : Prop :=
  ∀ i x, zs[i]? = some x → ∃ b o, a = some ⟨b, o, none⟩ ∧ x.rd w ∧ w.cell? ⟨b, o + i * 7, none⟩ = some (.bool x.lo.neg) ∧ w.cell? ⟨b, o + i * 7 + 1, none⟩ = some (.slice x.lo.a x.lo.xs.length x.lo.c) ∧ w.cell? ⟨b, o + i * 7 + 2, none⟩ = some (.int .i64 x.lo.e) ∧
    w.cell? ⟨b, o + i * 7 + 3, none⟩ = some (.bool x.hi.neg) ∧ w.cell? ⟨b, o + i * 7 + 4, none⟩ = some (.slice x.hi.a x.hi.xs.length x.hi.c) ∧ w.cell? ⟨b, o + i * 7 + 5, none⟩ = some (.int .i64 x.hi.e) ∧ w.cell? ⟨b, o + i * 7 + 6, none⟩ = some (.bool x.all)
theorem RowI.kp {w w' : World} {a : Option Addr} {zs : List RI} (h : RowI w a zs) (k : Kp w w') : RowI w' a zs := by
  intro i x hi
  obtain ⟨b, o, rfl, hr, h0, h1, h2, h3, h4, h5, h6⟩ := h i x hi
  exact ⟨b, o, rfl, hr.kp k, k.cell h0, k.cell h1, k.cell h2, k.cell h3, k.cell h4, k.cell h5, k.cell h6⟩
def goodI (x : RI) : Bool := !x.all && x.vl
theorem goodI_ok {w : World} {x : RI} (h : x.rd w) : goodI x = true ↔ x.ok w := by
  unfold goodI RI.ok
  cases x.all <;> simp [h]
set_option maxHeartbeats 4000000 in
theorem known_any (a : Option Addr) (zs : List RI) (c : Nat) (w : World) (h : RowI w a zs) (hl : zs.length ≤ 1100000) :
    Calls Tryz.prog 138 #[.slice a zs.length c] w fun e w' => e = .returned (.bool (zs.all goodI)) ∧ Kp w w' := by
  go_enter Tryz.func138, Tryz.ntmps138
  go_wp2
  go_loopw [7] (fun x wr => ∃ k : Nat, k ≤ zs.length ∧ x = .int .i64 k ∧ (∀ i y, zs[i]? = some y → i < k → goodI y = true) ∧ Kp w wr) (fun x _ => zs.length - (intOf x).toNat)
  case atStart => exact ⟨0, by omega, rfl, fun i y _ h1 => by omega, .refl _⟩
  case round =>
  obtain ⟨k, hk, rfl, hz, hkp⟩ := hrel
  have Hz := Lib.hid hz; clear hz
  by_cases hlt : k < zs.length
  rotate_left
  · have hall : zs.all goodI = true := by
      rw [List.all_eq_true]
      intro y hy
      obtain ⟨i, hi⟩ := List.getElem?_of_mem hy
      have : i < zs.length := (List.getElem?_eq_some_iff.1 hi).1
      exact Hz.out i y hi (by omega)
    have H := Lib.hid hall.symm
    clear hall
    go_wp2
    go_ret
    exact ⟨ret_bool H.out, hkp⟩
  obtain ⟨b, o, rfl, hr, h0, h1, h2, h3, h4, h5, h6⟩ := (h.kp hkp) k (zs[k]) (List.getElem?_eq_getElem hlt)
  have Hg := Lib.hid (List.getElem?_eq_getElem hlt)
  generalize zs[k] = x at *
  have H := Lib.hid (show goodI x = (!x.all && x.vl) from rfl)
  have step : goodI x = true → ∀ i y, zs[i]? = some y → i < k + 1 → goodI y = true := fun hq i y hy hi => by
    by_cases e : i = k
    · subst e; rw [Hg.out] at hy; cases hy; exact hq
    · exact Hz.out i y hy (by omega)
  have fall : goodI x = false → zs.all goodI = false := fun hq => by
    rw [List.all_eq_false]
    exact ⟨x, List.mem_of_getElem? Hg.out, by rw [hq]; decide⟩
  have Hs := Lib.hid step
  have Hf := Lib.hid fall
  clear step fall
  have hmv := IValid_raw x
  cases ha : x.all with
  | true =>
    rw [ha] at H h6
    clear ha hmv
    go_wp2_with fail
    go_ret
    exact ⟨ret_bool (Hf.out H.out).symm, by first | exact hkp.alloc _ | exact ((hkp.alloc _).alloc _)⟩
  | false =>
  rw [ha] at H h6
  have hm := hmv (wr.alloc (.cells #[.bool x.lo.neg, .slice x.lo.a x.lo.xs.length x.lo.c, .int .i64 x.lo.e, .bool x.hi.neg, .slice x.hi.a x.hi.xs.length x.hi.c, .int .i64 x.hi.e, .bool false] 44)) (hr.kp ((Kp.refl _).alloc _))
  rw [ha] at hm
  clear ha hmv
  go_wp2_with fail
  cases hv : x.vl with
  | false =>
    rw [hv] at H hm
    clear hv
    refine hm.mono ?_
    rintro e w2 ⟨rfl, hk2⟩
    go_wp2_with fail
    go_ret
    exact ⟨ret_bool (Hf.out H.out).symm, (hkp.alloc _).trans hk2⟩
  | true =>
  rw [hv] at H hm
  clear hv
  refine hm.mono ?_
  rintro e w2 ⟨rfl, hk2⟩
  go_wp2_with fail
  go_roundw
  case measure => simp [intOf]; omega
  case rel => exact ⟨k + 1, by omega, by go_num, Hs.out H.out, (hkp.alloc _).trans hk2⟩
def moreR (x y : RD) : RD := if y.iv ≤ x.iv then x else y
theorem keep33 {w w' : World} (k : Kp w w') {p0 p1 p2 q0 q1 q2 : Addr} {v0 v1 v2 u0 u1 u2 : Value}
    (h : (w.cell? p0 = some v0 ∧ w.cell? p1 = some v1 ∧ w.cell? p2 = some v2) ∧ w.cell? q0 = some u0 ∧ w.cell? q1 = some u1 ∧ w.cell? q2 = some u2) :
    (w'.cell? p0 = some v0 ∧ w'.cell? p1 = some v1 ∧ w'.cell? p2 = some v2) ∧ w'.cell? q0 = some u0 ∧ w'.cell? q1 = some u1 ∧ w'.cell? q2 = some u2 :=
  ⟨keep3 k h.1, keep3 k h.2⟩
theorem Box3.new3 (w : World) (x0 x1 x2 : Value) (t : TypeId) (o1 o2 : Obj) : Box3 (((w.alloc o1).alloc o2).alloc (.cells #[x0, x1, x2] t)) (w.heap.size + 2) x0 x1 x2 := by
  have := Box3.new ((w.alloc o1).alloc o2) x0 x1 x2 t
  rwa [World.size_alloc, World.size_alloc] at this
set_option maxHeartbeats 4000000 in
theorem more_ok (x y : RD) (w : World) (hx : x.ok w) (hy : y.ok w) :
    Calls Tryz.prog 177 #[.agg #[.bool x.neg, .slice x.a x.xs.length x.c, .int .i64 x.e], .agg #[.bool y.neg, .slice y.a y.xs.length y.c, .int .i64 y.e]] w fun e w' => e = .returned (.agg #[.bool (moreR x y).neg, .slice (moreR x y).a (moreR x y).xs.length (moreR x y).c, .int .i64 (moreR x y).e]) ∧ Kp w w' := by
  go_enter Tryz.func177, Tryz.ntmps177
  go_wp2_with fail
  generalize hW : (((w.alloc _).alloc _).alloc _) = W at *
  have hk : Kp w W := hW ▸ (((Kp.refl w).alloc _).alloc _).alloc _
  have hS : (W.cell? ⟨w.heap.size, 0, none⟩ = some (.bool x.neg) ∧ W.cell? ⟨w.heap.size, 1, none⟩ = some (.slice x.a x.xs.length x.c) ∧ W.cell? ⟨w.heap.size, 2, none⟩ = some (.int .i64 x.e)) ∧ W.cell? ⟨w.heap.size + 1, 0, none⟩ = some (.bool y.neg) ∧ W.cell? ⟨w.heap.size + 1, 1, none⟩ = some (.slice y.a y.xs.length y.c) ∧ W.cell? ⟨w.heap.size + 1, 2, none⟩ = some (.int .i64 y.e) := by rw [← hW]; exact keep33 ((Kp.refl _).alloc _) (by simp)
  have hB : Box3 W (w.heap.size + 2) (.bool false) (.slice none 0 0) (.int .i64 0) := hW ▸ Box3.new3 _ _ _ _ _ _ _
  clear hW
  refine (Cmp_rok x y _ (hx.kp hk) (hy.kp hk)).mono ?_
  rintro e w1 ⟨rfl, hk1⟩
  have hS1 := keep33 hk1 hS
  obtain ⟨q0, q1, q2, f0, f1, f2⟩ := hB.kp hk1
  have hk2 := hk.trans hk1
  clear hS hk hk1 hB
  by_cases hc : 0 ≤ cmpZ x.iv y.iv
  · have hd := decide_eq_true hc
    have H := Lib.hid (show moreR x y = x by unfold moreR; rw [if_pos]; have := @cmpZ_lt x.iv y.iv; omega)
    clear hc
    go_wp2_with fail
    have hst := stored q0 q1 q2 (fun _ h => by cases h) (fun _ h => by cases h) (fun _ h => by cases h) (.bool x.neg) (.slice x.a x.xs.length x.c) (.int .i64 x.e)
    generalize (((w1.setCell _ _).setCell _ _).setCell _ _) = W2 at hst ⊢
    obtain ⟨s0, s1, s2, _, s4, s5, _, _⟩ := hst
    refine bodyPost_ret (v := .agg #[.bool x.neg, .slice x.a x.xs.length x.c, .int .i64 x.e]) (by simp [results, Tryz.results177, go_sem, s0, s1, s2]) rfl ?_
    rw [H.out]
    exact ⟨rfl, s5 _ hk2 (by omega)⟩
  have hd := decide_eq_false hc
  have H := Lib.hid (show moreR x y = y by unfold moreR; rw [if_neg]; have := @cmpZ_lt x.iv y.iv; omega)
  clear hc
  go_wp2_with fail
  have hst := stored q0 q1 q2 (fun _ h => by cases h) (fun _ h => by cases h) (fun _ h => by cases h) (.bool y.neg) (.slice y.a y.xs.length y.c) (.int .i64 y.e)
  generalize (((w1.setCell _ _).setCell _ _).setCell _ _) = W2 at hst ⊢
  obtain ⟨s0, s1, s2, _, s4, s5, _, _⟩ := hst
  refine bodyPost_ret (v := .agg #[.bool y.neg, .slice y.a y.xs.length y.c, .int .i64 y.e]) (by simp [results, Tryz.results177, go_sem, s0, s1, s2]) rfl ?_
  rw [H.out]
  exact ⟨rfl, s5 _ hk2 (by omega)⟩
def Upd (g : Nat) (w W : World) : Prop :=
  (∀ p : Addr, W.frozen? p = w.frozen? p) ∧ (∀ a xs, Rd w a xs → Rd W a xs) ∧ (∀ a : World, Kp a w → a.heap.size ≤ g → Kp a W) ∧ (∀ p : Addr, p.block ≠ g → W.cell? p = w.cell? p) ∧ W.heap.size = w.heap.size
theorem Upd.refl (g : Nat) (w : World) : Upd g w w := ⟨fun _ => rfl, fun _ _ h => h, fun _ h _ => h, fun _ _ => rfl, rfl⟩
theorem Upd.step {g : Nat} {w W : World} (h : Upd g w W) {i : Nat} {y : Value} (hc : W.cell? ⟨g, i, none⟩ = some y) (hy : ∀ n : Int, y ≠ .int .u32 n) (v : Value) : Upd g w (W.setCell ⟨g, i, none⟩ v) := by
  obtain ⟨h1, h2, h3, h4, h5⟩ := h
  refine ⟨fun p => by rw [← h1 p]; simp, fun a xs hr => (h2 a xs hr).other hc hy, fun a hk hg => (h3 a hk hg).set hg _, fun p hp => ?_, by rw [← h5]; simp⟩
  rw [cell_set_ne, h4 p hp]
  intro e; exact hp (by rw [← e])
theorem set_at {w : World} {g i j : Nat} {v u : Value} (hij : i ≠ j) (h : w.cell? ⟨g, j, none⟩ = some u) : (w.setCell ⟨g, i, none⟩ v).cell? ⟨g, j, none⟩ = some u := by
  rw [cell_set_ne (fun e => hij (by injection e))]; exact h
def Box7 (w : World) (g : Nat) (x0 x1 x2 x3 x4 x5 x6 : Value) : Prop :=
  w.cell? ⟨g, 0, none⟩ = some x0 ∧ w.cell? ⟨g, 1, none⟩ = some x1 ∧ w.cell? ⟨g, 2, none⟩ = some x2 ∧ w.cell? ⟨g, 3, none⟩ = some x3 ∧ w.cell? ⟨g, 4, none⟩ = some x4 ∧ w.cell? ⟨g, 5, none⟩ = some x5 ∧ w.cell? ⟨g, 6, none⟩ = some x6
theorem Box7.kp {w w' : World} {g : Nat} {x0 x1 x2 x3 x4 x5 x6 : Value} (h : Box7 w g x0 x1 x2 x3 x4 x5 x6) (k : Kp w w') : Box7 w' g x0 x1 x2 x3 x4 x5 x6 := keep7 k h
theorem Box7.new (w : World) (x0 x1 x2 x3 x4 x5 x6 : Value) (t : TypeId) : Box7 (w.alloc (.cells #[x0, x1, x2, x3, x4, x5, x6] t)) w.heap.size x0 x1 x2 x3 x4 x5 x6 := by
  refine ⟨?_, ?_, ?_, ?_, ?_, ?_, ?_⟩ <;> simp
theorem stored7 {w : World} {g : Nat} {y0 y1 y2 y3 y4 y5 y6 : Value} (h : Box7 w g y0 y1 y2 y3 y4 y5 y6)
    (n0 : ∀ n : Int, y0 ≠ .int .u32 n) (n1 : ∀ n : Int, y1 ≠ .int .u32 n) (n2 : ∀ n : Int, y2 ≠ .int .u32 n) (n3 : ∀ n : Int, y3 ≠ .int .u32 n) (n4 : ∀ n : Int, y4 ≠ .int .u32 n) (n5 : ∀ n : Int, y5 ≠ .int .u32 n) (n6 : ∀ n : Int, y6 ≠ .int .u32 n)
    (x0 x1 x2 x3 x4 x5 x6 : Value) {W : World}
    (hW : (((((((w.setCell ⟨g, 0, none⟩ x0).setCell ⟨g, 1, none⟩ x1).setCell ⟨g, 2, none⟩ x2).setCell ⟨g, 3, none⟩ x3).setCell ⟨g, 4, none⟩ x4).setCell ⟨g, 5, none⟩ x5).setCell ⟨g, 6, none⟩ x6) = W) :
    Box7 W g x0 x1 x2 x3 x4 x5 x6 ∧ Upd g w W := by
  subst hW
  obtain ⟨h0, h1, h2, h3, h4, h5, h6⟩ := h
  have d (i j : Nat) (h : i ≠ j) : i ≠ j := h
  have u0 := (Upd.refl g w).step h0 n0 x0
  have u1 := u0.step (set_at (by decide) h1) n1 x1
  have u2 := u1.step (set_at (by decide) (set_at (by decide) h2)) n2 x2
  have u3 := u2.step (set_at (by decide) (set_at (by decide) (set_at (by decide) h3))) n3 x3
  have u4 := u3.step (set_at (by decide) (set_at (by decide) (set_at (by decide) (set_at (by decide) h4)))) n4 x4
  have u5 := u4.step (set_at (by decide) (set_at (by decide) (set_at (by decide) (set_at (by decide) (set_at (by decide) h5))))) n5 x5
  have u6 := u5.step (set_at (by decide) (set_at (by decide) (set_at (by decide) (set_at (by decide) (set_at (by decide) (set_at (by decide) h6)))))) n6 x6
  refine ⟨⟨?_, ?_, ?_, ?_, ?_, ?_, ?_⟩, u6⟩
  · exact set_at (by decide) (set_at (by decide) (set_at (by decide) (set_at (by decide) (set_at (by decide) (set_at (by decide) (cell_set_eq h0))))))
  · exact set_at (by decide) (set_at (by decide) (set_at (by decide) (set_at (by decide) (set_at (by decide) (cell_set_eq (set_at (by decide) h1))))))
  · exact set_at (by decide) (set_at (by decide) (set_at (by decide) (set_at (by decide) (cell_set_eq (set_at (by decide) (set_at (by decide) h2))))))
  · exact set_at (by decide) (set_at (by decide) (set_at (by decide) (cell_set_eq (set_at (by decide) (set_at (by decide) (set_at (by decide) h3))))))
  · exact set_at (by decide) (set_at (by decide) (cell_set_eq (set_at (by decide) (set_at (by decide) (set_at (by decide) (set_at (by decide) h4))))))
  · exact set_at (by decide) (cell_set_eq (set_at (by decide) (set_at (by decide) (set_at (by decide) (set_at (by decide) (set_at (by decide) h5))))))
  exact cell_set_eq (set_at (by decide) (set_at (by decide) (set_at (by decide) (set_at (by decide) (set_at (by decide) (set_at (by decide) h6))))))
def Frz (w : World) (g : Nat) : Prop :=
  w.frozen? ⟨g, 0, none⟩ = false ∧ w.frozen? ⟨g, 1, none⟩ = false ∧ w.frozen? ⟨g, 2, none⟩ = false ∧ w.frozen? ⟨g, 3, none⟩ = false ∧ w.frozen? ⟨g, 4, none⟩ = false ∧ w.frozen? ⟨g, 5, none⟩ = false ∧ w.frozen? ⟨g, 6, none⟩ = false
theorem Frz.kp {w w' : World} {g : Nat} {x0 x1 x2 x3 x4 x5 x6 : Value} (h : Frz w g) (b : Box7 w g x0 x1 x2 x3 x4 x5 x6) (k : Kp w w') : Frz w' g :=
  ⟨k.frozen b.1 h.1, k.frozen b.2.1 h.2.1, k.frozen b.2.2.1 h.2.2.1, k.frozen b.2.2.2.1 h.2.2.2.1, k.frozen b.2.2.2.2.1 h.2.2.2.2.1, k.frozen b.2.2.2.2.2.1 h.2.2.2.2.2.1, k.frozen b.2.2.2.2.2.2 h.2.2.2.2.2.2⟩
theorem Frz.new (w : World) (x0 x1 x2 x3 x4 x5 x6 : Value) (t : TypeId) : Frz (w.alloc (.cells #[x0, x1, x2, x3, x4, x5, x6] t)) w.heap.size := by
  refine ⟨?_, ?_, ?_, ?_, ?_, ?_, ?_⟩ <;> simp
def Var7 (w : World) (g : Nat) : Prop := Box7 w g (.bool false) (.slice none 0 0) (.int .i64 0) (.bool false) (.slice none 0 0) (.int .i64 0) (.bool false) ∧ Frz w g
theorem Var7.kp {w w' : World} {g : Nat} (h : Var7 w g) (k : Kp w w') : Var7 w' g := ⟨h.1.kp k, h.2.kp h.1 k⟩
theorem Var7.alloc {w : World} {g : Nat} (h : Var7 w g) (o : Obj) : Var7 (w.alloc o) g := h.kp ((Kp.refl w).alloc o)
theorem Var7.new (w : World) (t : TypeId) : Var7 (w.alloc (.cells #[.bool false, .slice none 0 0, .int .i64 0, .bool false, .slice none 0 0, .int .i64 0, .bool false] t)) w.heap.size := ⟨Box7.new _ _ _ _ _ _ _ _ _, Frz.new _ _ _ _ _ _ _ _ _⟩
theorem Var7.new2 (w : World) (t : TypeId) (o1 o2 : Obj) : Var7 (((w.alloc o1).alloc o2).alloc (.cells #[.bool false, .slice none 0 0, .int .i64 0, .bool false, .slice none 0 0, .int .i64 0, .bool false] t)) (w.heap.size + 1 + 1) := by
  have := Var7.new ((w.alloc o1).alloc o2) t
  rwa [World.size_alloc, World.size_alloc] at this
theorem moreR_ok {w : World} {x y : RD} (hx : x.ok w) (hy : y.ok w) : (moreR x y).ok w := by unfold moreR; split <;> assumption
theorem RI.ok_mk {w : World} {x y : RD} (hx : x.ok w) (hy : y.ok w) (h : x.iv ≤ y.iv) : RI.ok w ⟨x, y, false⟩ := by
  refine ⟨⟨hx.1, hy.1⟩, rfl, ?_⟩
  show (if false = true then _ else _) = true
  have := @cmpZ_gt x.iv y.iv
  simp [hx.2, hy.2]; omega
theorem set77 {w : World} {g g1 g2 : Nat} (n1 : g1 ≠ g) (n2 : g2 ≠ g) {v0 v1 v2 v3 v4 v5 v6 u0 u1 u2 u3 u4 u5 u6 x0 x1 x2 x3 x4 x5 x6 : Value}
    (h : (w.cell? ⟨g1, 0, none⟩ = some v0 ∧ w.cell? ⟨g1, 1, none⟩ = some v1 ∧ w.cell? ⟨g1, 2, none⟩ = some v2 ∧ w.cell? ⟨g1, 3, none⟩ = some v3 ∧ w.cell? ⟨g1, 4, none⟩ = some v4 ∧ w.cell? ⟨g1, 5, none⟩ = some v5 ∧ w.cell? ⟨g1, 6, none⟩ = some v6) ∧ w.cell? ⟨g2, 0, none⟩ = some u0 ∧ w.cell? ⟨g2, 1, none⟩ = some u1 ∧ w.cell? ⟨g2, 2, none⟩ = some u2 ∧ w.cell? ⟨g2, 3, none⟩ = some u3 ∧ w.cell? ⟨g2, 4, none⟩ = some u4 ∧ w.cell? ⟨g2, 5, none⟩ = some u5 ∧ w.cell? ⟨g2, 6, none⟩ = some u6) :
    ((((((((w.setCell ⟨g, 0, none⟩ x0).setCell ⟨g, 1, none⟩ x1).setCell ⟨g, 2, none⟩ x2).setCell ⟨g, 3, none⟩ x3).setCell ⟨g, 4, none⟩ x4).setCell ⟨g, 5, none⟩ x5).setCell ⟨g, 6, none⟩ x6).cell? ⟨g1, 0, none⟩ = some v0 ∧ (((((((w.setCell ⟨g, 0, none⟩ x0).setCell ⟨g, 1, none⟩ x1).setCell ⟨g, 2, none⟩ x2).setCell ⟨g, 3, none⟩ x3).setCell ⟨g, 4, none⟩ x4).setCell ⟨g, 5, none⟩ x5).setCell ⟨g, 6, none⟩ x6).cell? ⟨g1, 1, none⟩ = some v1 ∧ (((((((w.setCell ⟨g, 0, none⟩ x0).setCell ⟨g, 1, none⟩ x1).setCell ⟨g, 2, none⟩ x2).setCell ⟨g, 3, none⟩ x3).setCell ⟨g, 4, none⟩ x4).setCell ⟨g, 5, none⟩ x5).setCell ⟨g, 6, none⟩ x6).cell? ⟨g1, 2, none⟩ = some v2 ∧ (((((((w.setCell ⟨g, 0, none⟩ x0).setCell ⟨g, 1, none⟩ x1).setCell ⟨g, 2, none⟩ x2).setCell ⟨g, 3, none⟩ x3).setCell ⟨g, 4, none⟩ x4).setCell ⟨g, 5, none⟩ x5).setCell ⟨g, 6, none⟩ x6).cell? ⟨g1, 3, none⟩ = some v3 ∧ (((((((w.setCell ⟨g, 0, none⟩ x0).setCell ⟨g, 1, none⟩ x1).setCell ⟨g, 2, none⟩ x2).setCell ⟨g, 3, none⟩ x3).setCell ⟨g, 4, none⟩ x4).setCell ⟨g, 5, none⟩ x5).setCell ⟨g, 6, none⟩ x6).cell? ⟨g1, 4, none⟩ = some v4 ∧ (((((((w.setCell ⟨g, 0, none⟩ x0).setCell ⟨g, 1, none⟩ x1).setCell ⟨g, 2, none⟩ x2).setCell ⟨g, 3, none⟩ x3).setCell ⟨g, 4, none⟩ x4).setCell ⟨g, 5, none⟩ x5).setCell ⟨g, 6, none⟩ x6).cell? ⟨g1, 5, none⟩ = some v5 ∧ (((((((w.setCell ⟨g, 0, none⟩ x0).setCell ⟨g, 1, none⟩ x1).setCell ⟨g, 2, none⟩ x2).setCell ⟨g, 3, none⟩ x3).setCell ⟨g, 4, none⟩ x4).setCell ⟨g, 5, none⟩ x5).setCell ⟨g, 6, none⟩ x6).cell? ⟨g1, 6, none⟩ = some v6) ∧ (((((((w.setCell ⟨g, 0, none⟩ x0).setCell ⟨g, 1, none⟩ x1).setCell ⟨g, 2, none⟩ x2).setCell ⟨g, 3, none⟩ x3).setCell ⟨g, 4, none⟩ x4).setCell ⟨g, 5, none⟩ x5).setCell ⟨g, 6, none⟩ x6).cell? ⟨g2, 0, none⟩ = some u0 ∧ (((((((w.setCell ⟨g, 0, none⟩ x0).setCell ⟨g, 1, none⟩ x1).setCell ⟨g, 2, none⟩ x2).setCell ⟨g, 3, none⟩ x3).setCell ⟨g, 4, none⟩ x4).setCell ⟨g, 5, none⟩ x5).setCell ⟨g, 6, none⟩ x6).cell? ⟨g2, 1, none⟩ = some u1 ∧ (((((((w.setCell ⟨g, 0, none⟩ x0).setCell ⟨g, 1, none⟩ x1).setCell ⟨g, 2, none⟩ x2).setCell ⟨g, 3, none⟩ x3).setCell ⟨g, 4, none⟩ x4).setCell ⟨g, 5, none⟩ x5).setCell ⟨g, 6, none⟩ x6).cell? ⟨g2, 2, none⟩ = some u2 ∧ (((((((w.setCell ⟨g, 0, none⟩ x0).setCell ⟨g, 1, none⟩ x1).setCell ⟨g, 2, none⟩ x2).setCell ⟨g, 3, none⟩ x3).setCell ⟨g, 4, none⟩ x4).setCell ⟨g, 5, none⟩ x5).setCell ⟨g, 6, none⟩ x6).cell? ⟨g2, 3, none⟩ = some u3 ∧ (((((((w.setCell ⟨g, 0, none⟩ x0).setCell ⟨g, 1, none⟩ x1).setCell ⟨g, 2, none⟩ x2).setCell ⟨g, 3, none⟩ x3).setCell ⟨g, 4, none⟩ x4).setCell ⟨g, 5, none⟩ x5).setCell ⟨g, 6, none⟩ x6).cell? ⟨g2, 4, none⟩ = some u4 ∧ (((((((w.setCell ⟨g, 0, none⟩ x0).setCell ⟨g, 1, none⟩ x1).setCell ⟨g, 2, none⟩ x2).setCell ⟨g, 3, none⟩ x3).setCell ⟨g, 4, none⟩ x4).setCell ⟨g, 5, none⟩ x5).setCell ⟨g, 6, none⟩ x6).cell? ⟨g2, 5, none⟩ = some u5 ∧ (((((((w.setCell ⟨g, 0, none⟩ x0).setCell ⟨g, 1, none⟩ x1).setCell ⟨g, 2, none⟩ x2).setCell ⟨g, 3, none⟩ x3).setCell ⟨g, 4, none⟩ x4).setCell ⟨g, 5, none⟩ x5).setCell ⟨g, 6, none⟩ x6).cell? ⟨g2, 6, none⟩ = some u6 := by
  have ne (a i j : Nat) (n : a ≠ g) : (⟨g, i, none⟩ : Addr) ≠ ⟨a, j, none⟩ := fun e => n (by injection e with e1; exact e1.symm)
  have key (a j : Nat) (n : a ≠ g) : (((((((w.setCell ⟨g, 0, none⟩ x0).setCell ⟨g, 1, none⟩ x1).setCell ⟨g, 2, none⟩ x2).setCell ⟨g, 3, none⟩ x3).setCell ⟨g, 4, none⟩ x4).setCell ⟨g, 5, none⟩ x5).setCell ⟨g, 6, none⟩ x6).cell? ⟨a, j, none⟩ = w.cell? ⟨a, j, none⟩ := by
    rw [cell_set_ne (ne a 6 j n), cell_set_ne (ne a 5 j n), cell_set_ne (ne a 4 j n), cell_set_ne (ne a 3 j n), cell_set_ne (ne a 2 j n), cell_set_ne (ne a 1 j n), cell_set_ne (ne a 0 j n)]
  simp only [key _ _ n1, key _ _ n2]
  exact h
theorem Var7.upd {w W : World} {g g' : Nat} (h : Var7 w g') (n : g' ≠ g) (u : Upd g w W) : Var7 W g' := by
  obtain ⟨⟨h0, h1, h2, h3, h4, h5, h6⟩, f0, f1, f2, f3, f4, f5, f6⟩ := h
  have e (j : Nat) : W.cell? ⟨g', j, none⟩ = w.cell? ⟨g', j, none⟩ := u.2.2.2.1 _ n
  have f (j : Nat) : W.frozen? ⟨g', j, none⟩ = w.frozen? ⟨g', j, none⟩ := u.1 _
  exact ⟨⟨(e 0).trans h0, (e 1).trans h1, (e 2).trans h2, (e 3).trans h3, (e 4).trans h4, (e 5).trans h5, (e 6).trans h6⟩,
    (f 0).trans f0, (f 1).trans f1, (f 2).trans f2, (f 3).trans f3, (f 4).trans f4, (f 5).trans f5, (f 6).trans f6⟩
def RI.cells (x : RI) : List Value := [.bool x.lo.neg, .slice x.lo.a x.lo.xs.length x.lo.c, .int .i64 x.lo.e, .bool x.hi.neg, .slice x.hi.a x.hi.xs.length x.hi.c, .int .i64 x.hi.e, .bool x.all]
theorem RI.cells_len (x : RI) : x.cells.length = 7 := rfl
def OwnI (wb w : World) (v : Value) (zs : List RI) : Prop :=
  ((∀ x, x ∈ zs → x.rd wb) ∧ Kp wb w) ∧ w.ownsRow wb.heap.size 44 7 v zs.length (zs.flatMap RI.cells)
theorem flat_get {zs : List RI} {i : Nat} {x : RI} (h : zs[i]? = some x) {j : Nat} (hj : j < 7) : (zs.flatMap RI.cells)[i * 7 + j]? = x.cells[j]? := by
  induction zs generalizing i with
  | nil => simp at h
  | cons z zs ih =>
    rw [List.flatMap_cons]
    cases i with
    | zero =>
      simp only [List.getElem?_cons_zero, Option.some.injEq] at h
      subst h
      rw [List.getElem?_append_left (by rw [RI.cells_len]; omega), Nat.zero_mul, Nat.zero_add]
    | succ i =>
      rw [List.getElem?_cons_succ] at h
      rw [List.getElem?_append_right (by rw [RI.cells_len]; omega), RI.cells_len, ← ih h]
      congr 1; omega
theorem OwnI.nil {wb w : World} (k : Kp wb w) : OwnI wb w (.slice none 0 0) [] := ⟨⟨fun _ h => by simp at h, k⟩, World.ownsRow_nil _ _ _ _⟩
theorem OwnI.value {wb w : World} {v : Value} {zs : List RI} (h : OwnI wb w v zs) : ∃ a c, v = .slice a zs.length c ∧ zs.length ≤ c ∧ c ≤ maxLen ∧ RowI w a zs := by
  obtain ⟨h1, h2, h3⟩ := h
  rcases h3 with ⟨rfl, h3⟩ | ⟨g, cap, cur, rfl, hb, hg, hn, hc, hs, ht⟩
  · have h0 : zs = [] := List.length_eq_zero_iff.1 h3
    subst h0
    exact ⟨none, 0, rfl, Nat.le_refl _, by decide, fun i x hi => by simp at hi⟩
  refine ⟨_, _, rfl, hn, hc, fun i x hi => ⟨g, 0, rfl, (h1.1 x (List.mem_of_getElem? hi)).kp h1.2, ?_⟩⟩
  have hil : i < zs.length := (List.getElem?_eq_some_iff.1 hi).1
  have key (j : Nat) (hj : j < 7) (u : Value) (hu : x.cells[j]? = some u) : w.cell? ⟨g, i * 7 + j, none⟩ = some u := by
    rw [cell_of_row w g _ cur _ _ hg]
    have h5 : (cur.toList.take (zs.length * 7))[i * 7 + j]? = some u := by rw [ht, flat_get hi hj, hu]
    rw [List.getElem?_take, if_pos (by omega)] at h5
    simpa using h5
  simp only [Nat.zero_add]
  exact ⟨key 0 (by decide) _ rfl, key 1 (by decide) _ rfl, key 2 (by decide) _ rfl, key 3 (by decide) _ rfl, key 4 (by decide) _ rfl, key 5 (by decide) _ rfl, key 6 (by decide) _ rfl⟩
theorem OwnI.kp {wb w w' : World} {v : Value} {zs : List RI} (h : OwnI wb w v zs) (k : Kp w w') : OwnI wb w' v zs := by
  refine ⟨⟨h.1.1, h.1.2.trans k⟩, ?_⟩
  obtain ⟨_, h2, h3⟩ := h
  refine ⟨h2, ?_⟩
  rcases h3 with h3 | ⟨g, cap, cur, h4, hb, hg, hr⟩
  · exact .inl h3
  exact .inr ⟨g, cap, cur, h4, hb, k.heap hg, hr⟩
theorem infoIvl : (Tryz.prog.info? 44).map (fun i => (i.zero, i.size, i.bytes)) = some (some (.agg #[.bool false, .slice none 0 0, .int .i64 0, .bool false, .slice none 0 0, .int .i64 0, .bool false]), 7, 88) := by kernel_rfl
end Go.Proofs.YtbhmhfnfceakoaaGreatDoor
section
namespace Go.Proofs.YtbhmhfnfceakoaaGreatDoor
open Go.ChangeShapes Go.WideShapes Go.RowKit Go.Deep

section
variable {H : Type}
theorem bulk_one (d : DataW H) : 1 ≤ Rows.uptoBulk d := by
  cases d with
  | nil => simp [Rows.uptoBulk]
  | ptr d => simp [Rows.uptoBulk]
  | slice elems spare => simp [Rows.uptoBulk]
  | agg parts => simp [Rows.uptoBulk]
  | iface t d => simp [Rows.uptoBulk]
  | map entries => simp [Rows.uptoBulk]
  | held h => simp [Rows.uptoBulk]
  | lit l => cases l <;> simp [Rows.uptoBulk]
theorem bulk_part {d : DataW H} {l : List (DataW H)} (h : d ∈ l) : Rows.uptoBulk d ≤ Rows.uptoBulkAll l := by
  induction l with
  | nil => cases h
  | cons x r ih =>
    simp only [Rows.uptoBulkAll]
    cases List.mem_cons.1 h with
    | inl e => subst e; omega
    | inr e => have := ih e; omega
theorem bulk_len (l : List (DataW H)) : l.length ≤ Rows.uptoBulkAll l := by
  induction l with
  | nil => simp [Rows.uptoBulkAll]
  | cons x r ih => have := bulk_one x; simp only [Rows.uptoBulkAll, List.length_cons]; omega
theorem bulk_slice (elems spare : List (DataW H)) : elems.length ≤ Rows.uptoBulk (.slice elems spare) := by
  have h1 := bulk_len elems
  simp only [Rows.uptoBulk]
  omega
theorem bulk_elem {elems spare : List (DataW H)} {d : DataW H} (h : d ∈ elems) : Rows.uptoBulk d ≤ Rows.uptoBulk (.slice elems spare) := by
  have := bulk_part h
  simp only [Rows.uptoBulk]
  omega
theorem bulk_agg {parts : List (DataW H)} {d : DataW H} (h : d ∈ parts) : Rows.uptoBulk d ≤ Rows.uptoBulk (.agg parts) := by
  have := bulk_part h
  simp only [Rows.uptoBulk]
  omega
end

section
variable {H : Type} {enc : TypeId × Value → H} {w : World} {base : Nat} {spare : Nat → Bool} {held : Bool}
theorem cell_spot {a : Addr} {v : Value} (h : w.cell? (a.add 0) = some v) : ∃ b o, a = ⟨b, o, none⟩ := by
  obtain ⟨b, o, spot⟩ := a
  have hspot : spot = none := by simpa [Addr.add] using World.cell?_spot h
  subst hspot
  exact ⟨b, o, rfl⟩
theorem wf_u32_bd {n : Int} (h : (Lit.int .u32 n).wf = true) : 0 ≤ n ∧ n ≤ 4294967295 := by
  have := bounds_u32 h
  omega
theorem wf_i64_bd {n : Int} (h : (Lit.int .i64 n).wf = true) : I64 n := by
  have := bounds_i64 h
  exact ⟨by omega, by omega⟩
theorem cells32 : Tryz.prog.cellsOf 109 = 1 := by kernel_rfl
theorem cellsBool : Tryz.prog.cellsOf 4 = 1 := by kernel_rfl
theorem cellsInt : Tryz.prog.cellsOf 3 = 1 := by kernel_rfl
theorem cellsLimbs : Tryz.prog.cellsOf 36 = 1 := by kernel_rfl
theorem cellsDyd : Tryz.prog.cellsOf 38 = 3 := by kernel_rfl
theorem cellsIvl : Tryz.prog.cellsOf 44 = 7 := by kernel_rfl
theorem open_limbs {fuel : Nat} {cs : List Value} {x : DataW H × List MemPlace} (h : DataW.trod enc Tryz.prog w base spare held fuel 36 cs = some x) :
    ∃ (a : Option Addr) (xs : List Nat) (c : Nat), cs = [.slice a xs.length c] ∧ Rd w a xs ∧ xs.length ≤ c ∧ c ≤ maxLen ∧ xs.length ≤ Rows.uptoBulk x.1 := by
  rcases open_ints Tryz.underlying36 Tryz.underlying109 cells32 h with ⟨hcs, hx⟩ | ⟨a, len, cap, zs, hcs, _, hl, hm, hz, hx, hcell, hwz⟩
  · exact ⟨none, [], 0, hcs, .nil _ _, Nat.le_refl _, by unfold maxLen; omega, Nat.zero_le _⟩
  have hle : len ≤ zs.length := by rw [hz]; split <;> omega
  have hlen : ((zs.take len).map Int.toNat).length = len := by simp; omega
  refine ⟨some a, (zs.take len).map Int.toNat, cap, by rw [hlen]; exact hcs, ⟨?_, ?_⟩, by omega, hm, ?_⟩
  · intro y hy
    obtain ⟨z, hz', rfl⟩ := List.mem_map.1 hy
    have := wf_u32_bd (hwz z (List.mem_of_mem_take hz'))
    omega
  · by_cases h0 : len = 0
    · exact .inl (by rw [h0]; simp)
    obtain ⟨b, o, rfl⟩ := cell_spot (hcell 0 (by omega))
    refine .inr ⟨b, o, rfl, fun i hi => ?_⟩
    rw [hlen] at hi
    have hc := hcell i (by omega)
    rw [Addr.add_lit] at hc
    have hw := wf_u32_bd (hwz (zs[i]'(by omega)) (List.getElem_mem _))
    have e : nth ((zs.take len).map Int.toNat) i = (zs[i]'(by omega)).toNat := by
      rw [nth_eq (by rw [hlen]; exact hi)]
      simp
    have e2 : zs.getD i 0 = zs[i]'(by omega) := by simp [List.getD, List.getElem?_eq_getElem (show i < zs.length by omega)]
    rw [hc, e, e2, Int.toNat_of_nonneg hw.1]
  rw [hx]
  show _ ≤ Rows.uptoBulk (DataW.slice _ _)
  refine Nat.le_trans ?_ (bulk_slice _ _)
  simp [lits]
theorem list3 {α : Type} {l : List α} (h : l.length = 3) : ∃ a b c, l = [a, b, c] := by
  match l, h with
  | [a, b, c], _ => exact ⟨a, b, c, rfl⟩
theorem open_dyd {fuel : Nat} {cs : List Value} {x : DataW H × List MemPlace} (h : DataW.trod enc Tryz.prog w base spare held fuel 38 cs = some x) (hb : Rows.uptoBulk x.1 ≤ 1048576) :
    ∃ y : RD, cs = [.bool y.neg, .slice y.a y.xs.length y.c, .int .i64 y.e] ∧ y.rd w := by
  obtain ⟨xs, n, _, hx, hlen, hxl, hf⟩ := DataW.trod_struct Tryz.underlying38 h
  replace hlen := hlen.trans cellsDyd
  obtain ⟨c0, c1, c2, rfl⟩ := list3 hlen
  obtain ⟨y0, y1, y2, rfl⟩ := list3 hxl
  have h0 : DataW.trod enc Tryz.prog w base spare held n 4 (([c0, c1, c2].drop 0).take (Tryz.prog.cellsOf 4)) = some y0 := hf 0 _ rfl
  have h1 : DataW.trod enc Tryz.prog w base spare held n 36 (([c0, c1, c2].drop 1).take (Tryz.prog.cellsOf 36)) = some y1 := hf 1 _ rfl
  have h2 : DataW.trod enc Tryz.prog w base spare held n 3 (([c0, c1, c2].drop 2).take (Tryz.prog.cellsOf 3)) = some y2 := hf 2 _ rfl
  rw [cellsBool] at h0
  rw [cellsLimbs] at h1
  rw [cellsInt] at h2
  have h0 : DataW.trod enc Tryz.prog w base spare held n 4 [c0] = some y0 := h0
  have h1 : DataW.trod enc Tryz.prog w base spare held n 36 [c1] = some y1 := h1
  have h2 : DataW.trod enc Tryz.prog w base spare held n 3 [c2] = some y2 := h2
  obtain ⟨s, e0, _⟩ := DataW.trod_bool Tryz.underlying4 h0
  obtain ⟨a, zs, c, e1, hr, hc, hm, hbz⟩ := open_limbs h1
  obtain ⟨e, e2, _, hw⟩ := DataW.trod_int Tryz.underlying3 h2
  simp only [List.cons.injEq, and_true] at e0 e1 e2
  subst e0 e1 e2
  have hy1 : y1.1 ∈ [y0, y1, y2].map (·.1) := by simp
  have hle : Rows.uptoBulk y1.1 ≤ Rows.uptoBulk x.1 := by rw [hx]; exact bulk_agg hy1
  exact ⟨⟨s, a, zs, c, e⟩, rfl, hr, hc, hm, by show zs.length ≤ _; omega, wf_i64_bd hw⟩
theorem list7 {α : Type} {l : List α} (h : l.length = 7) : ∃ a b c d e f g, l = [a, b, c, d, e, f, g] := by
  match l, h with
  | [a, b, c, d, e, f, g], _ => exact ⟨a, b, c, d, e, f, g, rfl⟩
theorem open_ivl {fuel : Nat} {cs : List Value} {x : DataW H × List MemPlace} (h : DataW.trod enc Tryz.prog w base spare held fuel 44 cs = some x) (hb : Rows.uptoBulk x.1 ≤ 1048576) :
    ∃ y : RI, cs = [.bool y.lo.neg, .slice y.lo.a y.lo.xs.length y.lo.c, .int .i64 y.lo.e, .bool y.hi.neg, .slice y.hi.a y.hi.xs.length y.hi.c, .int .i64 y.hi.e, .bool y.all] ∧ y.rd w := by
  obtain ⟨xs, n, _, hx, hlen, hxl, hf⟩ := DataW.trod_struct Tryz.underlying44 h
  replace hlen := hlen.trans cellsIvl
  obtain ⟨c0, c1, c2, c3, c4, c5, c6, rfl⟩ := list7 hlen
  obtain ⟨y0, y1, y2, rfl⟩ := list3 hxl
  have h0 : DataW.trod enc Tryz.prog w base spare held n 38 (([c0, c1, c2, c3, c4, c5, c6].drop 0).take (Tryz.prog.cellsOf 38)) = some y0 := hf 0 _ rfl
  have h1 : DataW.trod enc Tryz.prog w base spare held n 38 (([c0, c1, c2, c3, c4, c5, c6].drop 3).take (Tryz.prog.cellsOf 38)) = some y1 := hf 1 _ rfl
  have h2 : DataW.trod enc Tryz.prog w base spare held n 4 (([c0, c1, c2, c3, c4, c5, c6].drop 6).take (Tryz.prog.cellsOf 4)) = some y2 := hf 2 _ rfl
  rw [cellsDyd] at h0 h1
  rw [cellsBool] at h2
  have hle0 : Rows.uptoBulk y0.1 ≤ Rows.uptoBulk x.1 := by rw [hx]; exact bulk_agg (by simp)
  have hle1 : Rows.uptoBulk y1.1 ≤ Rows.uptoBulk x.1 := by rw [hx]; exact bulk_agg (by simp)
  have h0 : DataW.trod enc Tryz.prog w base spare held n 38 [c0, c1, c2] = some y0 := h0
  have h1 : DataW.trod enc Tryz.prog w base spare held n 38 [c3, c4, c5] = some y1 := h1
  have h2 : DataW.trod enc Tryz.prog w base spare held n 4 [c6] = some y2 := h2
  obtain ⟨lo, e0, r0⟩ := open_dyd h0 (by omega)
  obtain ⟨hi, e1, r1⟩ := open_dyd h1 (by omega)
  obtain ⟨s, e2, _⟩ := DataW.trod_bool Tryz.underlying4 h2
  simp only [List.cons.injEq, and_true] at e0 e1 e2
  obtain ⟨rfl, rfl, rfl⟩ := e0
  obtain ⟨rfl, rfl, rfl⟩ := e1
  subst e2
  exact ⟨⟨lo, hi, s⟩, rfl, r0, r1⟩
instance : Inhabited RD := ⟨⟨false, none, [], 0, 0⟩⟩
instance : Inhabited RI := ⟨⟨default, default, false⟩⟩
theorem open_rowI {fuel : Nat} {cs : List Value} {x : DataW H × List MemPlace} (h : DataW.trod enc Tryz.prog w base spare held fuel 24 cs = some x) (hb : Rows.uptoBulk x.1 ≤ 1048576) :
    ∃ (a : Option Addr) (zs : List RI) (c : Nat), cs = [.slice a zs.length c] ∧ RowI w a zs ∧ zs.length ≤ 1048576 := by
  rcases open_slice Tryz.underlying24 h with ⟨hcs, hx⟩ | ⟨a, len, cap, m, n, D, Pl, hcs, _, hl, hm, hmm, hx, hi⟩
  · exact ⟨none, [], 0, hcs, fun i x hx => by simp at hx, Nat.zero_le _⟩
  have hle : len ≤ m := by rw [hmm]; split <;> omega
  have hbl : ∀ i, i < len → Rows.uptoBulk (D i) ≤ 1048576 := fun i hil => by
    refine Nat.le_trans ?_ hb
    rw [hx]
    exact bulk_elem (List.mem_map.2 ⟨i, List.mem_range.2 hil, rfl⟩)
  have hll : len ≤ 1048576 := by
    refine Nat.le_trans ?_ hb
    rw [hx]
    refine Nat.le_trans ?_ (bulk_slice _ _)
    simp
  obtain ⟨f, hf⟩ := choose_lt (α := RI) (n := len) (p := fun i y => w.cells? base (a.add (i * 7)) 7 = some [.bool y.lo.neg, .slice y.lo.a y.lo.xs.length y.lo.c, .int .i64 y.lo.e, .bool y.hi.neg, .slice y.hi.a y.hi.xs.length y.hi.c, .int .i64 y.hi.e, .bool y.all] ∧ y.rd w) (fun i hil => by
    obtain ⟨cs', h1, h2⟩ := hi i (by omega)
    rw [cellsIvl] at h1
    obtain ⟨y, e, hr⟩ := open_ivl h2 (hbl i hil)
    exact ⟨y, by rw [h1, e], hr⟩)
  have hfl : ((List.range len).map f).length = len := by simp
  refine ⟨some a, (List.range len).map f, cap, by rw [hfl]; exact hcs, fun i x hx => ?_, by omega⟩
  have hil : i < len := by have := (List.getElem?_eq_some_iff.1 hx).1; rwa [hfl] at this
  rw [List.getElem?_map, List.getElem?_range hil] at hx
  cases hx
  obtain ⟨h1, h2⟩ := hf i hil
  obtain ⟨_, _, hat⟩ := World.cells?_some h1
  have h0 := hf 0 (by omega)
  have hspot : ∃ b o, a = ⟨b, o, none⟩ := by
    obtain ⟨_, _, hat0⟩ := World.cells?_some h0.1
    have := hat0 0 (by decide)
    rw [Nat.zero_mul, add_add] at this
    exact cell_spot this
  obtain ⟨b, o, rfl⟩ := hspot
  have key (j : Nat) (hj : j < 7) (u : Value) (hu : ([.bool (f i).lo.neg, .slice (f i).lo.a (f i).lo.xs.length (f i).lo.c, .int .i64 (f i).lo.e, .bool (f i).hi.neg, .slice (f i).hi.a (f i).hi.xs.length (f i).hi.c, .int .i64 (f i).hi.e, .bool (f i).all] : List Value)[j]? = some u) : w.cell? ⟨b, o + i * 7 + j, none⟩ = some u := by
    have := hat j hj
    rw [add_add, Addr.add_lit, hu, ← Nat.add_assoc] at this
    exact this
  exact ⟨b, o, rfl, h2, key 0 (by decide) _ rfl, key 1 (by decide) _ rfl, key 2 (by decide) _ rfl, key 3 (by decide) _ rfl, key 4 (by decide) _ rfl, key 5 (by decide) _ rfl, key 6 (by decide) _ rfl⟩
theorem open_rowD {fuel : Nat} {cs : List Value} {x : DataW H × List MemPlace} (h : DataW.trod enc Tryz.prog w base spare held fuel 22 cs = some x) (hb : Rows.uptoBulk x.1 ≤ 1048576) :
    ∃ (a : Option Addr) (zs : List RD) (c : Nat), cs = [.slice a zs.length c] ∧ RowD w a zs ∧ zs.length ≤ 1048576 := by
  rcases open_slice Tryz.underlying22 h with ⟨hcs, hx⟩ | ⟨a, len, cap, m, n, D, Pl, hcs, _, hl, hm, hmm, hx, hi⟩
  · exact ⟨none, [], 0, hcs, fun i x hx => by simp at hx, Nat.zero_le _⟩
  have hle : len ≤ m := by rw [hmm]; split <;> omega
  have hbl : ∀ i, i < len → Rows.uptoBulk (D i) ≤ 1048576 := fun i hil => by
    refine Nat.le_trans ?_ hb
    rw [hx]
    exact bulk_elem (List.mem_map.2 ⟨i, List.mem_range.2 hil, rfl⟩)
  have hll : len ≤ 1048576 := by
    refine Nat.le_trans ?_ hb
    rw [hx]
    refine Nat.le_trans ?_ (bulk_slice _ _)
    simp
  obtain ⟨f, hf⟩ := choose_lt (α := RD) (n := len) (p := fun i y => w.cells? base (a.add (i * 3)) 3 = some [.bool y.neg, .slice y.a y.xs.length y.c, .int .i64 y.e] ∧ y.rd w) (fun i hil => by
    obtain ⟨cs', h1, h2⟩ := hi i (by omega)
    rw [cellsDyd] at h1
    obtain ⟨y, e, hr⟩ := open_dyd h2 (hbl i hil)
    exact ⟨y, by rw [h1, e], hr⟩)
  have hfl : ((List.range len).map f).length = len := by simp
  refine ⟨some a, (List.range len).map f, cap, by rw [hfl]; exact hcs, fun i x hx => ?_, by omega⟩
  have hil : i < len := by have := (List.getElem?_eq_some_iff.1 hx).1; rwa [hfl] at this
  rw [List.getElem?_map, List.getElem?_range hil] at hx
  cases hx
  obtain ⟨h1, h2⟩ := hf i hil
  obtain ⟨_, _, hat⟩ := World.cells?_some h1
  have h0 := hf 0 (by omega)
  have hspot : ∃ b o, a = ⟨b, o, none⟩ := by
    obtain ⟨_, _, hat0⟩ := World.cells?_some h0.1
    have := hat0 0 (by decide)
    rw [Nat.zero_mul, add_add] at this
    exact cell_spot this
  obtain ⟨b, o, rfl⟩ := hspot
  have key (j : Nat) (hj : j < 3) (u : Value) (hu : ([.bool (f i).neg, .slice (f i).a (f i).xs.length (f i).c, .int .i64 (f i).e] : List Value)[j]? = some u) : w.cell? ⟨b, o + i * 3 + j, none⟩ = some u := by
    have := hat j hj
    rw [add_add, Addr.add_lit, hu, ← Nat.add_assoc] at this
    exact this
  exact ⟨b, o, rfl, h2, key 0 (by decide) _ rfl, key 1 (by decide) _ rfl, key 2 (by decide) _ rfl⟩
end
end Go.Proofs.YtbhmhfnfceakoaaGreatDoor
end
section
namespace Go.Proofs.YtbhmhfnfceakoaaGreatDoor
open Go.ChangeShapes Go.WideShapes Go.ChangeAt Go.RowKit

theorem ownKnobs : ownKnob Tryz.prog.godebug = none := by kernel_rfl
theorem laidOutSeat : laidOutB Tryz.prog = true := by kernel_rfl
theorem gTab : Tryz.prog.globalNamed "math/bits.deBruijn32tab" = some 0 := by kernel_rfl
theorem gTabType : (Tryz.prog.globals[0]?).map (·.type) = some 166 := by kernel_rfl
theorem cellsTab : Tryz.prog.cellsOf 166 = 32 := by kernel_rfl
theorem cellsByte : Tryz.prog.cellsOf 5 = 1 := by kernel_rfl
def tabInts : List Int := [0, 1, 28, 2, 29, 14, 24, 3, 30, 22, 20, 15, 25, 17, 4, 8, 31, 27, 13, 23, 21, 19, 16, 7, 26, 12, 18, 6, 11, 5, 10, 9]

theorem tab_of_laid {W : World} (h : laidMetH Tryz.prog [("math/bits.deBruijn32tab", Rows.laid_math_bits_deBruijn32tab)] W) : Tab W := by
  have T : Lib.TabIs Tryz.prog W "math/bits.deBruijn32tab" .u8 tabInts :=
    Lib.tabIs_of_head (rest := []) gTab gTabType Tryz.underlying166 Tryz.underlying5 cellsByte cellsTab h
  intro j hj
  have hc := T.cell gTab j hj
  rw [hc]
  have e : ∀ j : Fin 32, tabInts.getD j.1 0 = ((Lib.deBruijn32tab.getD j.1 0 : Nat) : Int) := by decide
  exact congrArg some (congrArg (Value.int IntKind.u8) (e ⟨j, hj⟩))
noncomputable def laidWorld (os : Os) : World :=
  { World.holding Tryz.prog os ⟨#[], #[], []⟩ with heap := (World.holding Tryz.prog os ⟨#[], #[], []⟩).heap.modify 0 fun
      | .cells _ t frozen => .cells (tabInts.map fun z => Value.int .u8 z).toArray t frozen
      | o => o }

section
variable {H : Type} {enc : TypeId × Value → H} {P : Program}
theorem post_of_below {f : Func} {s : ChangeSpec} {apart fresh handsOn again : Bool} {W W' : World} {args : Array Value} {v : Value} {ds gs : List (DataW H)} {before pa pv : List MemPlace}
    (hW : DataW.Whole enc P f.params.toList s.vars apart W args.toList ds gs before)
    (hres : ∀ (b : Nat) (sp : Nat → Bool) (hd : Bool), DataW.TrodAll enc P W' b sp hd f.resultTypes.toList (v.resultList f.resultTypes.size) (s.fn H (ds ++ gs)).results [])
    (hargs : ∀ sp : Nat → Bool, (∀ p ∈ before, sp p.block = true) → DataW.TrodAll enc P W' 0 sp true f.params.toList args.toList (s.fn H (ds ++ gs)).args pa)
    (hvars : ∀ sp : Nat → Bool, (∀ p ∈ before, sp p.block = true) → DataW.TrodVars enc P W' sp s.vars (s.fn H (ds ++ gs)).vars pv)
    (hps : before = pa ++ pv) (hb : Below W.heap.size W W')
    (hok : ∀ (j : Nat) (t : TypeId) (r : Value), f.resultTypes[j]? = some t → (v.resultList f.resultTypes.size)[j]? = some r → Value.okWide P W' .any 0 t r) :
    s.post enc P f apart fresh handsOn again W args v W' := by
  have hlt : ∀ p ∈ before, p.block < W.heap.size := fun p hp => hW.lt p hp
  have hold : ∀ p ∈ before, (fun b => decide (b < W.heap.size)) p.block = true := fun p hp => by simpa using hlt p hp
  refine ⟨ds, gs, before, [], pa, pv, hW, hres _ _ _, hargs _ hold, hvars _ hold, World.keptBut_mono (fun p hp => ⟨hp, ?_⟩) (hb.frame (· ∈ before)), fun _ => ?_⟩
  · rw [hps, List.mem_append] at hp
    exact Or.inr hp
  obtain ⟨_, _, _, _, _, hz, hn⟩ := hW
  refine ⟨hok, _, _, ([] ++ pa) ++ pv, ⟨[] ++ pa, pv, trodAll_append (hargs _ (fun _ _ => rfl)) (hres _ _ _), hvars _ (fun _ _ => rfl), rfl, ?_, ?_⟩, ?_⟩
  · intro b off hp
    have hin : MemPlace.cell b off ∈ before := by rw [hps]; simpa using hp
    rw [hb.frozen (hlt _ hin)]
    exact hz b off hin
  · intro ha
    have := hn ha
    rw [hps] at this
    simpa using this
  intro p hp _
  rw [hps]
  simpa using hp
end
theorem bulk_bound {H : Type} {l : List (DataW H)} {d : DataW H} (hk : Rows.uptoSmall H l = true) (h : d ∈ l) : Rows.uptoBulk d ≤ 1048576 :=
  Nat.le_trans (bulk_part h) (of_decide_eq_true hk)
end Go.Proofs.YtbhmhfnfceakoaaGreatDoor
end
