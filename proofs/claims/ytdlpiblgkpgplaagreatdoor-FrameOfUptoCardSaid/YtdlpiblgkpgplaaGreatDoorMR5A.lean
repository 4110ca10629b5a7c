/-
  Walks: the fifth reference's zero, Valid, known, Prec, Whole.
  Walks: the seventh reference's Valid.
  Walks: matrix.Mul.
  Walks: matrix.each of a valid matrix of intervals.
-/
import Derived.Test.YtdlpiblgkpgplaaGreatDoorMR2I
import Derived.Test.YtdlpiblgkpgplaaGreatDoorMCmpD
import Derived.Test.YtdlpiblgkpgplaaGreatDoorMRoAdd
import Derived.Deep.LoopGhost
import Derived.Test.YtdlpiblgkpgplaaGreatDoorMRectM
import Derived.Deep.AppendLies
import Derived.Test.YtdlpiblgkpgplaaGreatDoorMKnuE
import Derived.Deep.RegionLaw
section
namespace Go.Proofs.YtdlpiblgkpgplaaGreatDoor
open Go.RowKit

theorem r2Valid_raw (x : RD) (w : World) (h : x.rd w) :
    Calls Tryz.prog 31 #[.agg #[.bool x.neg, .slice x.a x.xs.length x.c, .int .i64 x.e]] w fun e w' => e = .returned (.bool x.vl) ∧ Kp w w' :=
  r2Valid_any x.neg x.a x.xs x.c x.e w h.1 h.2.2.2.1 h.2.2.2.2
theorem r2cmp_raw (x y : RD) (w : World) (hx : x.rd w) (hy : y.rd w) (vx : x.vl = true) (vy : y.vl = true) :
    Calls Tryz.prog 70 #[.agg #[.bool x.neg, .slice x.a x.xs.length x.c, .int .i64 x.e], .agg #[.bool y.neg, .slice y.a y.xs.length y.c, .int .i64 y.e]] w fun e w' => e = .returned (.int .i64 (cmpZ x.iv y.iv)) ∧ Kp w w' := r2cmp_rok x y w ⟨hx, vx⟩ ⟨hy, vy⟩
set_option maxHeartbeats 2000000 in
theorem r5zero_raw (x : RD) (w : World) :
    Calls Tryz.prog 69 #[.agg #[.bool x.neg, .slice x.a x.xs.length x.c, .int .i64 x.e]] w fun e w' => e = .returned (.bool x.zr) ∧ Kp w w' := by
  have H := Lib.hid (show x.zr = (!x.neg && (decide (x.xs.length = 0) && decide (x.e = 0))) from rfl)
  go_enter Tryz.func69, Tryz.ntmps69
  cases hn : x.neg with
  | true =>
    rw [hn] at H
    clear hn
    go_wp2_with fail
    go_ret
    exact ⟨ret_bool H.out.symm, ((Kp.refl w).alloc _)⟩
  | false =>
    rw [hn] at H
    clear hn
    by_cases h0 : x.xs.length = 0
    · have hz : ((x.xs.length : Int) == 0) = true := beq_iff_eq.2 (by omega)
      rw [decide_eq_true h0] at H
      clear h0
      go_wp2_with fail
      go_ret
      exact ⟨ret_bool (by rw [H.out]; exact Bool.eq_iff_iff.2 (by simp)), ((Kp.refl w).alloc _)⟩
    · have hz : ((x.xs.length : Int) == 0) = false := beq_eq_false_iff_ne.2 (by omega)
      rw [decide_eq_false h0] at H
      clear h0
      go_wp2_with fail
      go_ret
      exact ⟨ret_bool (by rw [H.out]; simp), ((Kp.refl w).alloc _)⟩
set_option maxHeartbeats 4000000 in
theorem r5Valid_raw (x : RI) (w : World) (h : x.rd w) :
    Calls Tryz.prog 32 #[.agg #[.bool x.lo.neg, .slice x.lo.a x.lo.xs.length x.lo.c, .int .i64 x.lo.e, .bool x.hi.neg, .slice x.hi.a x.hi.xs.length x.hi.c, .int .i64 x.hi.e, .bool x.all]] w fun e w' => e = .returned (.bool x.vl) ∧ Kp w w' := by
  have H := Lib.hid (show x.vl = if x.all then x.lo.zr && x.hi.zr else x.lo.vl && (x.hi.vl && decide (cmpZ x.lo.iv x.hi.iv ≤ 0)) from rfl)
  go_enter Tryz.func32, Tryz.ntmps32
  cases ha : x.all with
  | true =>
    rw [ha] at H
    clear ha
    go_wp2_with fail
    refine (r5zero_raw x.lo _).mono ?_
    rintro e w1 ⟨rfl, hk1⟩
    have hS := keep7 hk1 (show (w.alloc (.cells #[.bool x.lo.neg, .slice x.lo.a x.lo.xs.length x.lo.c, .int .i64 x.lo.e, .bool x.hi.neg, .slice x.hi.a x.hi.xs.length x.hi.c, .int .i64 x.hi.e, .bool true] 35)).cell? ⟨w.heap.size, 0, none⟩ = some (.bool x.lo.neg) ∧ (w.alloc (.cells #[.bool x.lo.neg, .slice x.lo.a x.lo.xs.length x.lo.c, .int .i64 x.lo.e, .bool x.hi.neg, .slice x.hi.a x.hi.xs.length x.hi.c, .int .i64 x.hi.e, .bool true] 35)).cell? ⟨w.heap.size, 1, none⟩ = some (.slice x.lo.a x.lo.xs.length x.lo.c) ∧ (w.alloc (.cells #[.bool x.lo.neg, .slice x.lo.a x.lo.xs.length x.lo.c, .int .i64 x.lo.e, .bool x.hi.neg, .slice x.hi.a x.hi.xs.length x.hi.c, .int .i64 x.hi.e, .bool true] 35)).cell? ⟨w.heap.size, 2, none⟩ = some (.int .i64 x.lo.e) ∧ (w.alloc (.cells #[.bool x.lo.neg, .slice x.lo.a x.lo.xs.length x.lo.c, .int .i64 x.lo.e, .bool x.hi.neg, .slice x.hi.a x.hi.xs.length x.hi.c, .int .i64 x.hi.e, .bool true] 35)).cell? ⟨w.heap.size, 3, none⟩ = some (.bool x.hi.neg) ∧ (w.alloc (.cells #[.bool x.lo.neg, .slice x.lo.a x.lo.xs.length x.lo.c, .int .i64 x.lo.e, .bool x.hi.neg, .slice x.hi.a x.hi.xs.length x.hi.c, .int .i64 x.hi.e, .bool true] 35)).cell? ⟨w.heap.size, 4, none⟩ = some (.slice x.hi.a x.hi.xs.length x.hi.c) ∧ (w.alloc (.cells #[.bool x.lo.neg, .slice x.lo.a x.lo.xs.length x.lo.c, .int .i64 x.lo.e, .bool x.hi.neg, .slice x.hi.a x.hi.xs.length x.hi.c, .int .i64 x.hi.e, .bool true] 35)).cell? ⟨w.heap.size, 5, none⟩ = some (.int .i64 x.hi.e) ∧ (w.alloc (.cells #[.bool x.lo.neg, .slice x.lo.a x.lo.xs.length x.lo.c, .int .i64 x.lo.e, .bool x.hi.neg, .slice x.hi.a x.hi.xs.length x.hi.c, .int .i64 x.hi.e, .bool true] 35)).cell? ⟨w.heap.size, 6, none⟩ = some (.bool true) by simp)
    have hk2 := ((Kp.refl w).alloc _).trans hk1
    clear hk1
    cases hz : x.lo.zr with
    | false =>
      rw [hz] at H
      clear hz
      go_wp2_with fail
      go_ret
      exact ⟨ret_bool H.out.symm, hk2⟩
    | true =>
      rw [hz] at H
      clear hz
      go_wp2_with fail
      refine (r5zero_raw x.hi _).mono ?_
      rintro e w3 ⟨rfl, hk3⟩
      go_wp2_with fail
      go_ret
      exact ⟨ret_bool (by rw [H.out]; simp), hk2.trans hk3⟩
  | false =>
    rw [ha] at H
    clear ha
    go_wp2_with fail
    have hk0 := ((Kp.refl w).alloc (.cells #[.bool x.lo.neg, .slice x.lo.a x.lo.xs.length x.lo.c, .int .i64 x.lo.e, .bool x.hi.neg, .slice x.hi.a x.hi.xs.length x.hi.c, .int .i64 x.hi.e, .bool false] 35))
    refine (r2Valid_raw x.lo _ (h.1.kp hk0)).mono ?_
    rintro e w1 ⟨rfl, hk1⟩
    have hS := keep7 hk1 (show (w.alloc (.cells #[.bool x.lo.neg, .slice x.lo.a x.lo.xs.length x.lo.c, .int .i64 x.lo.e, .bool x.hi.neg, .slice x.hi.a x.hi.xs.length x.hi.c, .int .i64 x.hi.e, .bool false] 35)).cell? ⟨w.heap.size, 0, none⟩ = some (.bool x.lo.neg) ∧ (w.alloc (.cells #[.bool x.lo.neg, .slice x.lo.a x.lo.xs.length x.lo.c, .int .i64 x.lo.e, .bool x.hi.neg, .slice x.hi.a x.hi.xs.length x.hi.c, .int .i64 x.hi.e, .bool false] 35)).cell? ⟨w.heap.size, 1, none⟩ = some (.slice x.lo.a x.lo.xs.length x.lo.c) ∧ (w.alloc (.cells #[.bool x.lo.neg, .slice x.lo.a x.lo.xs.length x.lo.c, .int .i64 x.lo.e, .bool x.hi.neg, .slice x.hi.a x.hi.xs.length x.hi.c, .int .i64 x.hi.e, .bool false] 35)).cell? ⟨w.heap.size, 2, none⟩ = some (.int .i64 x.lo.e) ∧ (w.alloc (.cells #[.bool x.lo.neg, .slice x.lo.a x.lo.xs.length x.lo.c, .int .i64 x.lo.e, .bool x.hi.neg, .slice x.hi.a x.hi.xs.length x.hi.c, .int .i64 x.hi.e, .bool false] 35)).cell? ⟨w.heap.size, 3, none⟩ = some (.bool x.hi.neg) ∧ (w.alloc (.cells #[.bool x.lo.neg, .slice x.lo.a x.lo.xs.length x.lo.c, .int .i64 x.lo.e, .bool x.hi.neg, .slice x.hi.a x.hi.xs.length x.hi.c, .int .i64 x.hi.e, .bool false] 35)).cell? ⟨w.heap.size, 4, none⟩ = some (.slice x.hi.a x.hi.xs.length x.hi.c) ∧ (w.alloc (.cells #[.bool x.lo.neg, .slice x.lo.a x.lo.xs.length x.lo.c, .int .i64 x.lo.e, .bool x.hi.neg, .slice x.hi.a x.hi.xs.length x.hi.c, .int .i64 x.hi.e, .bool false] 35)).cell? ⟨w.heap.size, 5, none⟩ = some (.int .i64 x.hi.e) ∧ (w.alloc (.cells #[.bool x.lo.neg, .slice x.lo.a x.lo.xs.length x.lo.c, .int .i64 x.lo.e, .bool x.hi.neg, .slice x.hi.a x.hi.xs.length x.hi.c, .int .i64 x.hi.e, .bool false] 35)).cell? ⟨w.heap.size, 6, none⟩ = some (.bool false) by simp)
    have hk2 := hk0.trans hk1
    clear hk0 hk1
    cases hz : x.lo.vl with
    | false =>
      rw [hz] at H
      clear hz
      go_wp2_with fail
      go_ret
      exact ⟨ret_bool H.out.symm, hk2⟩
    | true =>
      rw [hz] at H
      have Hz := Lib.hid hz
      clear hz
      go_wp2_with fail
      refine (r2Valid_raw x.hi _ (h.2.kp hk2)).mono ?_
      rintro e w3 ⟨rfl, hk3⟩
      have hS2 := keep7 hk3 hS
      have hk4 := hk2.trans hk3
      clear hk2 hk3 hS
      cases hy : x.hi.vl with
      | false =>
        rw [hy] at H
        clear hy
        go_wp2_with fail
        go_ret
        exact ⟨ret_bool H.out.symm, hk4⟩
      | true =>
        rw [hy] at H
        have Hy := Lib.hid hy
        clear hy
        go_wp2_with fail
        refine (r2cmp_raw x.lo x.hi _ (h.1.kp hk4) (h.2.kp hk4) Hz.out Hy.out).mono ?_
        rintro e w5 ⟨rfl, hk5⟩
        go_wp2_with fail
        go_ret
        exact ⟨ret_bool H.out.symm, hk4.trans hk5⟩
end Go.Proofs.YtdlpiblgkpgplaaGreatDoor
end

section
namespace Go.Proofs.YtdlpiblgkpgplaaGreatDoor
open Go.RowKit

theorem colsM_eq {m : List (List RI)} {r0 : List RI} (h : m[0]? = some r0) : colsM m = r0.length := by
  unfold colsM
  cases m with
  | nil => simp at h
  | cons x t => simp at h; subst h; rfl
end Go.Proofs.YtdlpiblgkpgplaaGreatDoor
end

section
namespace Go.Proofs.YtdlpiblgkpgplaaGreatDoor
open Go.RowKit

theorem vlM_row0 {m : List (List RI)} (h : vlM m = true) : ∃ r, m[0]? = some r ∧ r.length = colsM m := by
  have h0 : 0 < m.length := (vlM_iff.1 h).1.1
  exact ⟨_, List.getElem?_eq_getElem h0, (vlM_row h (List.getElem?_eq_getElem h0)).1⟩
end Go.Proofs.YtdlpiblgkpgplaaGreatDoor
end

section
namespace Go.Proofs.YtdlpiblgkpgplaaGreatDoor
open Go.RowKit

/-- a matrix of these numbers -/
def MatV (w : World) (X : List (List PI)) (e : Ending) (w' : World) : Prop :=
  ∃ (a : Option Addr) (Z : List (List RI)) (c : Nat), e = .returned (.slice a Z.length c) ∧ RowM w' a Z ∧ plM Z = X ∧ okM Z ∧ Z.length ≤ 1100000 ∧ Kp w w'
end Go.Proofs.YtdlpiblgkpgplaaGreatDoor
end
