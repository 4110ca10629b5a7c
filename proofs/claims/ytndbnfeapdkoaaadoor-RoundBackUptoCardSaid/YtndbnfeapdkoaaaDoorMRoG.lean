/-
  Walks: round.add, AddDown, where the first number is 0; interval.permitted, Mid.
-/
import Derived.Test.YtndbnfeapdkoaaaDoorMRoF
import Derived.Test.YtndbnfeapdkoaaaDoorMIvC
namespace Go.Proofs.YtndbnfeapdkoaaaDoor
open Go.RowKit

theorem keep36 {w w' : World} (k : Kp w w') {p0 p1 p2 q0 q1 q2 : Addr} {v0 v1 v2 u0 u1 u2 : Value}
    (h : (w.cell? p0 = some v0 ∧ w.cell? p1 = some v1 ∧ w.cell? p2 = some v2) ∧ w.cell? q0 = some u0 ∧ w.cell? q1 = some u1 ∧ w.cell? q2 = some u2) :
    (w'.cell? p0 = some v0 ∧ w'.cell? p1 = some v1 ∧ w'.cell? p2 = some v2) ∧ w'.cell? q0 = some u0 ∧ w'.cell? q1 = some u1 ∧ w'.cell? q2 = some u2 := ⟨keep3 k h.1, keep3 k h.2⟩
theorem fltB_ok {p : Nat} {ys : List RD} (h : ys.all RD.vl = true) (h0 : 8 ≤ p) (h1 : p ≤ 512) : fltB p ys = 0 := fltB_zero.2 ⟨h, by omega, by omega⟩
theorem rowI_one (w : World) (x : RI) (hx : x.rd w) (hax : x.all = false) (t : TypeId) : RowI (w.alloc (.cells #[.bool x.lo.neg, .slice x.lo.a x.lo.xs.length x.lo.c, .int .i64 x.lo.e, .bool x.hi.neg, .slice x.hi.a x.hi.xs.length x.hi.c, .int .i64 x.hi.e, .bool false] t)) (some ⟨w.heap.size, 0, none⟩) [x] := by
  intro i z hi
  have hk := (Kp.refl w).alloc (.cells #[.bool x.lo.neg, .slice x.lo.a x.lo.xs.length x.lo.c, .int .i64 x.lo.e, .bool x.hi.neg, .slice x.hi.a x.hi.xs.length x.hi.c, .int .i64 x.hi.e, .bool false] t)
  match i with
  | 0 =>
    simp only [List.getElem?_cons_zero, Option.some.injEq] at hi
    subst hi
    refine ⟨_, 0, rfl, hx.kp hk, ?_, ?_, ?_, ?_, ?_, ?_, ?_⟩ <;> simp [hax]
  | i + 1 => simp at hi
/-- the halved sum is in the interval -/
def midOk (x : RI) (D : Dy) : Prop := (chk (canon D.neg D.m (D.e + -1))).2 = 0 ∧ hasI x (rdOf (chk (canon D.neg D.m (D.e + -1))).1 none 0) = true
end Go.Proofs.YtndbnfeapdkoaaaDoor
