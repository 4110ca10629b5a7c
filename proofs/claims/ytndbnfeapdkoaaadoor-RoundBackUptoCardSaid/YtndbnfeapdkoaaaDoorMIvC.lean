/-
  Walks: interval.less, more, known, Whole.
  Walks: interval.Hull, Meet, of valid intervals other than All.
  Walks: interval.Meet, of valid intervals other than All.
  The call's own slice of intervals, and append to it.
  Arguments opened: limbs, numbers, intervals, slices of these; how long they are, by the bulk of what is read; a call that leaves all that was there.
  What both rows of this seat share: the table that the row lists, a world that holds it, three slices opened, the step from a call that leaves all that was there to the row's own words.
  Walks: dyadic.checked, Make.
  Walks: dyadic.Make.
-/
import Derived.Test.YtndbnfeapdkoaaaDoorMSign
import Derived.Deep.AppendLies
import Derived.Test.YtndbnfeapdkoaaaDoorRows
import Derived.Deep.Slices
import Derived.ChangeArms
import Derived.OpenShut
import Derived.OpenVars
import Derived.ProofKit
import Derived.Test.YtndbnfeapdkoaaaDoorCards
import Derived.Test.YtndbnfeapdkoaaaDoorTie
import Derived.Test.YtndbnfeapdkoaaaDoorMMul
import Derived.WideKeyArgs
import Derived.WalkKit
import Derived.Below
import Derived.ChangeSame
import Derived.Deep.DeepHandedRow
import Derived.Lib.LaidTab
import Derived.Test.YtndbnfeapdkoaaaDoorMPub
section
namespace Go.Proofs.YtndbnfeapdkoaaaDoor
open Go.RowKit

/-- the lesser one -/
def lessR (x y : RD) : RD := if x.iv ≤ y.iv then x else y
/-- the greater one -/
def moreR (x y : RD) : RD := if y.iv ≤ x.iv then x else y
theorem keep33 {w w' : World} (k : Kp w w') {p0 p1 p2 q0 q1 q2 : Addr} {v0 v1 v2 u0 u1 u2 : Value}
    (h : (w.cell? p0 = some v0 ∧ w.cell? p1 = some v1 ∧ w.cell? p2 = some v2) ∧ w.cell? q0 = some u0 ∧ w.cell? q1 = some u1 ∧ w.cell? q2 = some u2) :
    (w'.cell? p0 = some v0 ∧ w'.cell? p1 = some v1 ∧ w'.cell? p2 = some v2) ∧ w'.cell? q0 = some u0 ∧ w'.cell? q1 = some u1 ∧ w'.cell? q2 = some u2 :=
  ⟨keep3 k h.1, keep3 k h.2⟩
theorem Box3.new3 (w : World) (x0 x1 x2 : Value) (t : TypeId) (o1 o2 : Obj) : Box3 (((w.alloc o1).alloc o2).alloc (.cells #[x0, x1, x2] t)) (w.heap.size + 2) x0 x1 x2 := by
  have := Box3.new ((w.alloc o1).alloc o2) x0 x1 x2 t
  rwa [World.size_alloc, World.size_alloc] at this

end Go.Proofs.YtndbnfeapdkoaaaDoor
end

section
namespace Go.Proofs.YtndbnfeapdkoaaaDoor
open Go.RowKit

/-- W is w but for cells of the block g that are of the call's own -/
def Upd (g : Nat) (w W : World) : Prop :=
  (∀ p : Addr, W.frozen? p = w.frozen? p) ∧ (∀ a xs, Rd w a xs → Rd W a xs) ∧ (∀ a : World, Kp a w → a.heap.size ≤ g → Kp a W) ∧ (∀ p : Addr, p.block ≠ g → W.cell? p = w.cell? p) ∧ W.heap.size = w.heap.size
theorem Upd.refl (g : Nat) (w : World) : Upd g w w := ⟨fun _ => rfl, fun _ _ h => h, fun _ h _ => h, fun _ _ => rfl, rfl⟩
theorem Upd.step {g : Nat} {w W : World} (h : Upd g w W) {i : Nat} {y : Value} (hc : W.cell? ⟨g, i, none⟩ = some y) (hy : ∀ n : Int, y ≠ .int .u32 n) (v : Value) : Upd g w (W.setCell ⟨g, i, none⟩ v) := by
  obtain ⟨h1, h2, h3, h4, h5⟩ := h
  refine ⟨fun p => by rw [← h1 p]; simp, fun a xs hr => (h2 a xs hr).other hc hy, fun a hk hg => (h3 a hk hg).set hg _, fun p hp => ?_, by rw [← h5]; simp⟩
  rw [cell_set_ne, h4 p hp]
  intro e; exact hp (by rw [← e])
theorem set_at {w : World} {g i j : Nat} {v u : Value} (hij : i ≠ j) (h : w.cell? ⟨g, j, none⟩ = some u) : (w.setCell ⟨g, i, none⟩ v).cell? ⟨g, j, none⟩ = some u := by
  rw [cell_set_ne (fun e => hij (by injection e))]; exact h
/-- the cells of an interval -/
def Box7 (w : World) (g : Nat) (x0 x1 x2 x3 x4 x5 x6 : Value) : Prop :=
  w.cell? ⟨g, 0, none⟩ = some x0 ∧ w.cell? ⟨g, 1, none⟩ = some x1 ∧ w.cell? ⟨g, 2, none⟩ = some x2 ∧ w.cell? ⟨g, 3, none⟩ = some x3 ∧ w.cell? ⟨g, 4, none⟩ = some x4 ∧ w.cell? ⟨g, 5, none⟩ = some x5 ∧ w.cell? ⟨g, 6, none⟩ = some x6
theorem Box7.kp {w w' : World} {g : Nat} {x0 x1 x2 x3 x4 x5 x6 : Value} (h : Box7 w g x0 x1 x2 x3 x4 x5 x6) (k : Kp w w') : Box7 w' g x0 x1 x2 x3 x4 x5 x6 := keep7 k h
theorem Box7.new (w : World) (x0 x1 x2 x3 x4 x5 x6 : Value) (t : TypeId) : Box7 (w.alloc (.cells #[x0, x1, x2, x3, x4, x5, x6] t)) w.heap.size x0 x1 x2 x3 x4 x5 x6 := by
  refine ⟨?_, ?_, ?_, ?_, ?_, ?_, ?_⟩ <;> simp
theorem stored7 {w : World} {g : Nat} {y0 y1 y2 y3 y4 y5 y6 : Value} (h : Box7 w g y0 y1 y2 y3 y4 y5 y6)
    (n0 : ∀ n : Int, y0 ≠ .int .u32 n) (n1 : ∀ n : Int, y1 ≠ .int .u32 n) (n2 : ∀ n : Int, y2 ≠ .int .u32 n) (n3 : ∀ n : Int, y3 ≠ .int .u32 n) (n4 : ∀ n : Int, y4 ≠ .int .u32 n) (n5 : ∀ n : Int, y5 ≠ .int .u32 n) (n6 : ∀ n : Int, y6 ≠ .int .u32 n)
    (x0 x1 x2 x3 x4 x5 x6 : Value) {W : World}
    (hW : (((((((w.setCell ⟨g, 0, none⟩ x0).setCell ⟨g, 1, none⟩ x1).setCell ⟨g, 2, none⟩ x2).setCell ⟨g, 3, none⟩ x3).setCell ⟨g, 4, none⟩ x4).setCell ⟨g, 5, none⟩ x5).setCell ⟨g, 6, none⟩ x6) = W) :
    Box7 W g x0 x1 x2 x3 x4 x5 x6 ∧ Upd g w W := by
  subst hW
  obtain ⟨h0, h1, h2, h3, h4, h5, h6⟩ := h
  have d (i j : Nat) (h : i ≠ j) : i ≠ j := h
  have u0 := (Upd.refl g w).step h0 n0 x0
  have u1 := u0.step (set_at (by decide) h1) n1 x1
  have u2 := u1.step (set_at (by decide) (set_at (by decide) h2)) n2 x2
  have u3 := u2.step (set_at (by decide) (set_at (by decide) (set_at (by decide) h3))) n3 x3
  have u4 := u3.step (set_at (by decide) (set_at (by decide) (set_at (by decide) (set_at (by decide) h4)))) n4 x4
  have u5 := u4.step (set_at (by decide) (set_at (by decide) (set_at (by decide) (set_at (by decide) (set_at (by decide) h5))))) n5 x5
  have u6 := u5.step (set_at (by decide) (set_at (by decide) (set_at (by decide) (set_at (by decide) (set_at (by decide) (set_at (by decide) h6)))))) n6 x6
  refine ⟨⟨?_, ?_, ?_, ?_, ?_, ?_, ?_⟩, u6⟩
  · exact set_at (by decide) (set_at (by decide) (set_at (by decide) (set_at (by decide) (set_at (by decide) (set_at (by decide) (cell_set_eq h0))))))
  · exact set_at (by decide) (set_at (by decide) (set_at (by decide) (set_at (by decide) (set_at (by decide) (cell_set_eq (set_at (by decide) h1))))))
  · exact set_at (by decide) (set_at (by decide) (set_at (by decide) (set_at (by decide) (cell_set_eq (set_at (by decide) (set_at (by decide) h2))))))
  · exact set_at (by decide) (set_at (by decide) (set_at (by decide) (cell_set_eq (set_at (by decide) (set_at (by decide) (set_at (by decide) h3))))))
  · exact set_at (by decide) (set_at (by decide) (cell_set_eq (set_at (by decide) (set_at (by decide) (set_at (by decide) (set_at (by decide) h4))))))
  · exact set_at (by decide) (cell_set_eq (set_at (by decide) (set_at (by decide) (set_at (by decide) (set_at (by decide) (set_at (by decide) h5))))))
  · exact cell_set_eq (set_at (by decide) (set_at (by decide) (set_at (by decide) (set_at (by decide) (set_at (by decide) (set_at (by decide) h6))))))

/-- none of the seven cells is frozen -/
def Frz (w : World) (g : Nat) : Prop :=
  w.frozen? ⟨g, 0, none⟩ = false ∧ w.frozen? ⟨g, 1, none⟩ = false ∧ w.frozen? ⟨g, 2, none⟩ = false ∧ w.frozen? ⟨g, 3, none⟩ = false ∧ w.frozen? ⟨g, 4, none⟩ = false ∧ w.frozen? ⟨g, 5, none⟩ = false ∧ w.frozen? ⟨g, 6, none⟩ = false
theorem Frz.kp {w w' : World} {g : Nat} {x0 x1 x2 x3 x4 x5 x6 : Value} (h : Frz w g) (b : Box7 w g x0 x1 x2 x3 x4 x5 x6) (k : Kp w w') : Frz w' g :=
  ⟨k.frozen b.1 h.1, k.frozen b.2.1 h.2.1, k.frozen b.2.2.1 h.2.2.1, k.frozen b.2.2.2.1 h.2.2.2.1, k.frozen b.2.2.2.2.1 h.2.2.2.2.1, k.frozen b.2.2.2.2.2.1 h.2.2.2.2.2.1, k.frozen b.2.2.2.2.2.2 h.2.2.2.2.2.2⟩
theorem Frz.new (w : World) (x0 x1 x2 x3 x4 x5 x6 : Value) (t : TypeId) : Frz (w.alloc (.cells #[x0, x1, x2, x3, x4, x5, x6] t)) w.heap.size := by
  refine ⟨?_, ?_, ?_, ?_, ?_, ?_, ?_⟩ <;> simp
/-- a variable of the call's own, with room for an interval -/
def Var7 (w : World) (g : Nat) : Prop := Box7 w g (.bool false) (.slice none 0 0) (.int .i64 0) (.bool false) (.slice none 0 0) (.int .i64 0) (.bool false) ∧ Frz w g
theorem Var7.kp {w w' : World} {g : Nat} (h : Var7 w g) (k : Kp w w') : Var7 w' g := ⟨h.1.kp k, h.2.kp h.1 k⟩
theorem Var7.alloc {w : World} {g : Nat} (h : Var7 w g) (o : Obj) : Var7 (w.alloc o) g := h.kp ((Kp.refl w).alloc o)
theorem Var7.new (w : World) (t : TypeId) : Var7 (w.alloc (.cells #[.bool false, .slice none 0 0, .int .i64 0, .bool false, .slice none 0 0, .int .i64 0, .bool false] t)) w.heap.size := ⟨Box7.new _ _ _ _ _ _ _ _ _, Frz.new _ _ _ _ _ _ _ _ _⟩
theorem Var7.new2 (w : World) (t : TypeId) (o1 o2 : Obj) : Var7 (((w.alloc o1).alloc o2).alloc (.cells #[.bool false, .slice none 0 0, .int .i64 0, .bool false, .slice none 0 0, .int .i64 0, .bool false] t)) (w.heap.size + 1 + 1) := by
  have := Var7.new ((w.alloc o1).alloc o2) t
  rwa [World.size_alloc, World.size_alloc] at this
/-- two intervals in a block of the call's own -/
theorem rowI_two (w : World) (x y : RI) (hx : x.rd w) (hy : y.rd w) (hax : x.all = false) (hay : y.all = false) (t : TypeId) : RowI (w.alloc (.cells #[.bool x.lo.neg, .slice x.lo.a x.lo.xs.length x.lo.c, .int .i64 x.lo.e, .bool x.hi.neg, .slice x.hi.a x.hi.xs.length x.hi.c, .int .i64 x.hi.e, .bool false, .bool y.lo.neg, .slice y.lo.a y.lo.xs.length y.lo.c, .int .i64 y.lo.e, .bool y.hi.neg, .slice y.hi.a y.hi.xs.length y.hi.c, .int .i64 y.hi.e, .bool false] t)) (some ⟨w.heap.size, 0, none⟩) [x, y] := by
  intro i z hi
  have hk := (Kp.refl w).alloc (.cells #[.bool x.lo.neg, .slice x.lo.a x.lo.xs.length x.lo.c, .int .i64 x.lo.e, .bool x.hi.neg, .slice x.hi.a x.hi.xs.length x.hi.c, .int .i64 x.hi.e, .bool false, .bool y.lo.neg, .slice y.lo.a y.lo.xs.length y.lo.c, .int .i64 y.lo.e, .bool y.hi.neg, .slice y.hi.a y.hi.xs.length y.hi.c, .int .i64 y.hi.e, .bool false] t)
  match i with
  | 0 =>
    simp only [List.getElem?_cons_zero, Option.some.injEq] at hi
    subst hi
    refine ⟨_, 0, rfl, hx.kp hk, ?_, ?_, ?_, ?_, ?_, ?_, ?_⟩ <;> simp [hax]
  | 1 =>
    simp only [List.getElem?_cons_succ, List.getElem?_cons_zero, Option.some.injEq] at hi
    subst hi
    refine ⟨_, 0, rfl, hy.kp hk, ?_, ?_, ?_, ?_, ?_, ?_, ?_⟩ <;> simp [hay]
  | i + 2 => simp at hi

/-- the hull -/
def hullI (x y : RI) : RI := ⟨lessR x.lo y.lo, moreR x.hi y.hi, false⟩
theorem lessR_ok {w : World} {x y : RD} (hx : x.ok w) (hy : y.ok w) : (lessR x y).ok w := by unfold lessR; split <;> assumption
theorem moreR_ok {w : World} {x y : RD} (hx : x.ok w) (hy : y.ok w) : (moreR x y).ok w := by unfold moreR; split <;> assumption
theorem lessR_iv (x y : RD) : (lessR x y).iv = min x.iv y.iv := by unfold lessR; split <;> omega
theorem moreR_iv (x y : RD) : (moreR x y).iv = max x.iv y.iv := by unfold moreR; split <;> omega
theorem RI.ok_mk {w : World} {x y : RD} (hx : x.ok w) (hy : y.ok w) (h : x.iv ≤ y.iv) : RI.ok w ⟨x, y, false⟩ := by
  refine ⟨⟨hx.1, hy.1⟩, rfl, ?_⟩
  show (if false = true then _ else _) = true
  have := @cmpZ_gt x.iv y.iv
  simp [hx.2, hy.2]; omega
theorem hullI_ok {w : World} {x y : RI} (hx : x.ok w) (hy : y.ok w) : (hullI x y).ok w := by
  refine RI.ok_mk (lessR_ok hx.lo hy.lo) (moreR_ok hx.hi hy.hi) ?_
  rw [lessR_iv, moreR_iv]
  have := hx.parts.2.2
  omega

theorem set77 {w : World} {g g1 g2 : Nat} (n1 : g1 ≠ g) (n2 : g2 ≠ g) {v0 v1 v2 v3 v4 v5 v6 u0 u1 u2 u3 u4 u5 u6 x0 x1 x2 x3 x4 x5 x6 : Value}
    (h : (w.cell? ⟨g1, 0, none⟩ = some v0 ∧ w.cell? ⟨g1, 1, none⟩ = some v1 ∧ w.cell? ⟨g1, 2, none⟩ = some v2 ∧ w.cell? ⟨g1, 3, none⟩ = some v3 ∧ w.cell? ⟨g1, 4, none⟩ = some v4 ∧ w.cell? ⟨g1, 5, none⟩ = some v5 ∧ w.cell? ⟨g1, 6, none⟩ = some v6) ∧ w.cell? ⟨g2, 0, none⟩ = some u0 ∧ w.cell? ⟨g2, 1, none⟩ = some u1 ∧ w.cell? ⟨g2, 2, none⟩ = some u2 ∧ w.cell? ⟨g2, 3, none⟩ = some u3 ∧ w.cell? ⟨g2, 4, none⟩ = some u4 ∧ w.cell? ⟨g2, 5, none⟩ = some u5 ∧ w.cell? ⟨g2, 6, none⟩ = some u6) :
    ((((((((w.setCell ⟨g, 0, none⟩ x0).setCell ⟨g, 1, none⟩ x1).setCell ⟨g, 2, none⟩ x2).setCell ⟨g, 3, none⟩ x3).setCell ⟨g, 4, none⟩ x4).setCell ⟨g, 5, none⟩ x5).setCell ⟨g, 6, none⟩ x6).cell? ⟨g1, 0, none⟩ = some v0 ∧ (((((((w.setCell ⟨g, 0, none⟩ x0).setCell ⟨g, 1, none⟩ x1).setCell ⟨g, 2, none⟩ x2).setCell ⟨g, 3, none⟩ x3).setCell ⟨g, 4, none⟩ x4).setCell ⟨g, 5, none⟩ x5).setCell ⟨g, 6, none⟩ x6).cell? ⟨g1, 1, none⟩ = some v1 ∧ (((((((w.setCell ⟨g, 0, none⟩ x0).setCell ⟨g, 1, none⟩ x1).setCell ⟨g, 2, none⟩ x2).setCell ⟨g, 3, none⟩ x3).setCell ⟨g, 4, none⟩ x4).setCell ⟨g, 5, none⟩ x5).setCell ⟨g, 6, none⟩ x6).cell? ⟨g1, 2, none⟩ = some v2 ∧ (((((((w.setCell ⟨g, 0, none⟩ x0).setCell ⟨g, 1, none⟩ x1).setCell ⟨g, 2, none⟩ x2).setCell ⟨g, 3, none⟩ x3).setCell ⟨g, 4, none⟩ x4).setCell ⟨g, 5, none⟩ x5).setCell ⟨g, 6, none⟩ x6).cell? ⟨g1, 3, none⟩ = some v3 ∧ (((((((w.setCell ⟨g, 0, none⟩ x0).setCell ⟨g, 1, none⟩ x1).setCell ⟨g, 2, none⟩ x2).setCell ⟨g, 3, none⟩ x3).setCell ⟨g, 4, none⟩ x4).setCell ⟨g, 5, none⟩ x5).setCell ⟨g, 6, none⟩ x6).cell? ⟨g1, 4, none⟩ = some v4 ∧ (((((((w.setCell ⟨g, 0, none⟩ x0).setCell ⟨g, 1, none⟩ x1).setCell ⟨g, 2, none⟩ x2).setCell ⟨g, 3, none⟩ x3).setCell ⟨g, 4, none⟩ x4).setCell ⟨g, 5, none⟩ x5).setCell ⟨g, 6, none⟩ x6).cell? ⟨g1, 5, none⟩ = some v5 ∧ (((((((w.setCell ⟨g, 0, none⟩ x0).setCell ⟨g, 1, none⟩ x1).setCell ⟨g, 2, none⟩ x2).setCell ⟨g, 3, none⟩ x3).setCell ⟨g, 4, none⟩ x4).setCell ⟨g, 5, none⟩ x5).setCell ⟨g, 6, none⟩ x6).cell? ⟨g1, 6, none⟩ = some v6) ∧ (((((((w.setCell ⟨g, 0, none⟩ x0).setCell ⟨g, 1, none⟩ x1).setCell ⟨g, 2, none⟩ x2).setCell ⟨g, 3, none⟩ x3).setCell ⟨g, 4, none⟩ x4).setCell ⟨g, 5, none⟩ x5).setCell ⟨g, 6, none⟩ x6).cell? ⟨g2, 0, none⟩ = some u0 ∧ (((((((w.setCell ⟨g, 0, none⟩ x0).setCell ⟨g, 1, none⟩ x1).setCell ⟨g, 2, none⟩ x2).setCell ⟨g, 3, none⟩ x3).setCell ⟨g, 4, none⟩ x4).setCell ⟨g, 5, none⟩ x5).setCell ⟨g, 6, none⟩ x6).cell? ⟨g2, 1, none⟩ = some u1 ∧ (((((((w.setCell ⟨g, 0, none⟩ x0).setCell ⟨g, 1, none⟩ x1).setCell ⟨g, 2, none⟩ x2).setCell ⟨g, 3, none⟩ x3).setCell ⟨g, 4, none⟩ x4).setCell ⟨g, 5, none⟩ x5).setCell ⟨g, 6, none⟩ x6).cell? ⟨g2, 2, none⟩ = some u2 ∧ (((((((w.setCell ⟨g, 0, none⟩ x0).setCell ⟨g, 1, none⟩ x1).setCell ⟨g, 2, none⟩ x2).setCell ⟨g, 3, none⟩ x3).setCell ⟨g, 4, none⟩ x4).setCell ⟨g, 5, none⟩ x5).setCell ⟨g, 6, none⟩ x6).cell? ⟨g2, 3, none⟩ = some u3 ∧ (((((((w.setCell ⟨g, 0, none⟩ x0).setCell ⟨g, 1, none⟩ x1).setCell ⟨g, 2, none⟩ x2).setCell ⟨g, 3, none⟩ x3).setCell ⟨g, 4, none⟩ x4).setCell ⟨g, 5, none⟩ x5).setCell ⟨g, 6, none⟩ x6).cell? ⟨g2, 4, none⟩ = some u4 ∧ (((((((w.setCell ⟨g, 0, none⟩ x0).setCell ⟨g, 1, none⟩ x1).setCell ⟨g, 2, none⟩ x2).setCell ⟨g, 3, none⟩ x3).setCell ⟨g, 4, none⟩ x4).setCell ⟨g, 5, none⟩ x5).setCell ⟨g, 6, none⟩ x6).cell? ⟨g2, 5, none⟩ = some u5 ∧ (((((((w.setCell ⟨g, 0, none⟩ x0).setCell ⟨g, 1, none⟩ x1).setCell ⟨g, 2, none⟩ x2).setCell ⟨g, 3, none⟩ x3).setCell ⟨g, 4, none⟩ x4).setCell ⟨g, 5, none⟩ x5).setCell ⟨g, 6, none⟩ x6).cell? ⟨g2, 6, none⟩ = some u6 := by
  have ne (a i j : Nat) (n : a ≠ g) : (⟨g, i, none⟩ : Addr) ≠ ⟨a, j, none⟩ := fun e => n (by injection e with e1; exact e1.symm)
  have key (a j : Nat) (n : a ≠ g) : (((((((w.setCell ⟨g, 0, none⟩ x0).setCell ⟨g, 1, none⟩ x1).setCell ⟨g, 2, none⟩ x2).setCell ⟨g, 3, none⟩ x3).setCell ⟨g, 4, none⟩ x4).setCell ⟨g, 5, none⟩ x5).setCell ⟨g, 6, none⟩ x6).cell? ⟨a, j, none⟩ = w.cell? ⟨a, j, none⟩ := by
    rw [cell_set_ne (ne a 6 j n), cell_set_ne (ne a 5 j n), cell_set_ne (ne a 4 j n), cell_set_ne (ne a 3 j n), cell_set_ne (ne a 2 j n), cell_set_ne (ne a 1 j n), cell_set_ne (ne a 0 j n)]
  simp only [key _ _ n1, key _ _ n2]
  exact h

end Go.Proofs.YtndbnfeapdkoaaaDoor
end

section
namespace Go.Proofs.YtndbnfeapdkoaaaDoor
open Go.RowKit

/-- what both have in common -/
def meetI (x y : RI) : RI := ⟨moreR x.lo y.lo, lessR x.hi y.hi, false⟩
/-- have they anything in common? -/
def meets (x y : RI) : Bool := decide ((moreR x.lo y.lo).iv ≤ (lessR x.hi y.hi).iv)

/-- this result -/
def MeetOut (x y : RI) (w : World) (e : Ending) (w' : World) : Prop :=
  e = .returned (.tuple #[if meets x y then .agg #[.bool (meetI x y).lo.neg, .slice (meetI x y).lo.a (meetI x y).lo.xs.length (meetI x y).lo.c, .int .i64 (meetI x y).lo.e, .bool (meetI x y).hi.neg, .slice (meetI x y).hi.a (meetI x y).hi.xs.length (meetI x y).hi.c, .int .i64 (meetI x y).hi.e, .bool (meetI x y).all] else .agg #[.bool false, .slice none 0 0, .int .i64 0, .bool false, .slice none 0 0, .int .i64 0, .bool false], .bool (meets x y)]) ∧ Kp w w'
theorem Var7.upd {w W : World} {g g' : Nat} (h : Var7 w g') (n : g' ≠ g) (u : Upd g w W) : Var7 W g' := by
  obtain ⟨⟨h0, h1, h2, h3, h4, h5, h6⟩, f0, f1, f2, f3, f4, f5, f6⟩ := h
  have e (j : Nat) : W.cell? ⟨g', j, none⟩ = w.cell? ⟨g', j, none⟩ := u.2.2.2.1 _ n
  have f (j : Nat) : W.frozen? ⟨g', j, none⟩ = w.frozen? ⟨g', j, none⟩ := u.1 _
  exact ⟨⟨(e 0).trans h0, (e 1).trans h1, (e 2).trans h2, (e 3).trans h3, (e 4).trans h4, (e 5).trans h5, (e 6).trans h6⟩,
    (f 0).trans f0, (f 1).trans f1, (f 2).trans f2, (f 3).trans f3, (f 4).trans f4, (f 5).trans f5, (f 6).trans f6⟩
theorem kp_ad (w : World) (o : Obj) : Kp w.drew (w.alloc o).drew := (Kp.refl w.drew).alloc o
theorem Var7.newd (w : World) (t : TypeId) : Var7 (w.alloc (.cells #[.bool false, .slice none 0 0, .int .i64 0, .bool false, .slice none 0 0, .int .i64 0, .bool false] t)).drew w.heap.size := (Var7.new w t).kp (Kp.refl _).drew
theorem set77a {w : World} {o1 o2 : Obj} {g1 g2 : Nat} (n1 : g1 < w.heap.size) (n2 : g2 < w.heap.size) {v0 v1 v2 v3 v4 v5 v6 u0 u1 u2 u3 u4 u5 u6 : Value}
    (h : ((w.alloc o1).cell? ⟨g1, 0, none⟩ = some v0 ∧ (w.alloc o1).cell? ⟨g1, 1, none⟩ = some v1 ∧ (w.alloc o1).cell? ⟨g1, 2, none⟩ = some v2 ∧ (w.alloc o1).cell? ⟨g1, 3, none⟩ = some v3 ∧ (w.alloc o1).cell? ⟨g1, 4, none⟩ = some v4 ∧ (w.alloc o1).cell? ⟨g1, 5, none⟩ = some v5 ∧ (w.alloc o1).cell? ⟨g1, 6, none⟩ = some v6) ∧ (w.alloc o1).cell? ⟨g2, 0, none⟩ = some u0 ∧ (w.alloc o1).cell? ⟨g2, 1, none⟩ = some u1 ∧ (w.alloc o1).cell? ⟨g2, 2, none⟩ = some u2 ∧ (w.alloc o1).cell? ⟨g2, 3, none⟩ = some u3 ∧ (w.alloc o1).cell? ⟨g2, 4, none⟩ = some u4 ∧ (w.alloc o1).cell? ⟨g2, 5, none⟩ = some u5 ∧ (w.alloc o1).cell? ⟨g2, 6, none⟩ = some u6) : ((w.alloc o2).cell? ⟨g1, 0, none⟩ = some v0 ∧ (w.alloc o2).cell? ⟨g1, 1, none⟩ = some v1 ∧ (w.alloc o2).cell? ⟨g1, 2, none⟩ = some v2 ∧ (w.alloc o2).cell? ⟨g1, 3, none⟩ = some v3 ∧ (w.alloc o2).cell? ⟨g1, 4, none⟩ = some v4 ∧ (w.alloc o2).cell? ⟨g1, 5, none⟩ = some v5 ∧ (w.alloc o2).cell? ⟨g1, 6, none⟩ = some v6) ∧ (w.alloc o2).cell? ⟨g2, 0, none⟩ = some u0 ∧ (w.alloc o2).cell? ⟨g2, 1, none⟩ = some u1 ∧ (w.alloc o2).cell? ⟨g2, 2, none⟩ = some u2 ∧ (w.alloc o2).cell? ⟨g2, 3, none⟩ = some u3 ∧ (w.alloc o2).cell? ⟨g2, 4, none⟩ = some u4 ∧ (w.alloc o2).cell? ⟨g2, 5, none⟩ = some u5 ∧ (w.alloc o2).cell? ⟨g2, 6, none⟩ = some u6 := by
  have key (a j : Nat) (n : a < w.heap.size) : (w.alloc o2).cell? ⟨a, j, none⟩ = (w.alloc o1).cell? ⟨a, j, none⟩ :=
    (Below.cell ((Kp.refl w).alloc o2) n).trans (Below.cell ((Kp.refl w).alloc o1) n).symm
  simp only [key _ _ n1, key _ _ n2]
  exact h

end Go.Proofs.YtndbnfeapdkoaaaDoor
end

section
namespace Go.Proofs.YtndbnfeapdkoaaaDoor
open Go.RowKit

/-- the seven cells of an interval -/
def RI.cells (x : RI) : List Value := [.bool x.lo.neg, .slice x.lo.a x.lo.xs.length x.lo.c, .int .i64 x.lo.e, .bool x.hi.neg, .slice x.hi.a x.hi.xs.length x.hi.c, .int .i64 x.hi.e, .bool x.all]
theorem RI.cells_len (x : RI) : x.cells.length = 7 := rfl
theorem flat_len (zs : List RI) : (zs.flatMap RI.cells).length = zs.length * 7 := by
  induction zs with
  | nil => rfl
  | cons z zs ih => rw [List.flatMap_cons, List.length_append, ih, RI.cells_len, List.length_cons]; omega
theorem flat_get {zs : List RI} {i : Nat} {x : RI} (h : zs[i]? = some x) {j : Nat} (hj : j < 7) : (zs.flatMap RI.cells)[i * 7 + j]? = x.cells[j]? := by
  induction zs generalizing i with
  | nil => simp at h
  | cons z zs ih =>
    rw [List.flatMap_cons]
    cases i with
    | zero =>
      simp only [List.getElem?_cons_zero, Option.some.injEq] at h
      subst h
      rw [List.getElem?_append_left (by rw [RI.cells_len]; omega), Nat.zero_mul, Nat.zero_add]
    | succ i =>
      rw [List.getElem?_cons_succ] at h
      rw [List.getElem?_append_right (by rw [RI.cells_len]; omega), RI.cells_len, ← ih h]
      congr 1; omega
end Go.Proofs.YtndbnfeapdkoaaaDoor
end

section
namespace Go.Proofs.YtndbnfeapdkoaaaDoor
open Go.ChangeShapes Go.WideShapes Go.RowKit Go.Deep

section
variable {H : Type}
theorem bulk_one (d : DataW H) : 1 ≤ Rows.uptoBulk d := by
  cases d with
  | lit l => cases l <;> simp [Rows.uptoBulk]
  | nil => simp [Rows.uptoBulk]
  | ptr d => simp [Rows.uptoBulk]
  | slice elems spare => simp [Rows.uptoBulk]
  | agg parts => simp [Rows.uptoBulk]
  | iface t d => simp [Rows.uptoBulk]
  | map entries => simp [Rows.uptoBulk]
  | held h => simp [Rows.uptoBulk]
theorem bulk_part {d : DataW H} {l : List (DataW H)} (h : d ∈ l) : Rows.uptoBulk d ≤ Rows.uptoBulkAll l := by
  induction l with
  | nil => cases h
  | cons x r ih =>
    simp only [Rows.uptoBulkAll]
    cases List.mem_cons.1 h with
    | inl e => subst e; omega
    | inr e => have := ih e; omega
theorem bulk_len (l : List (DataW H)) : l.length ≤ Rows.uptoBulkAll l := by
  induction l with
  | nil => simp [Rows.uptoBulkAll]
  | cons x r ih => have := bulk_one x; simp only [Rows.uptoBulkAll, List.length_cons]; omega
theorem bulk_slice (elems spare : List (DataW H)) : elems.length ≤ Rows.uptoBulk (.slice elems spare) := by
  have h1 := bulk_len elems
  simp only [Rows.uptoBulk]
  omega
theorem bulk_elem {elems spare : List (DataW H)} {d : DataW H} (h : d ∈ elems) : Rows.uptoBulk d ≤ Rows.uptoBulk (.slice elems spare) := by
  have := bulk_part h
  simp only [Rows.uptoBulk]
  omega
theorem bulk_agg {parts : List (DataW H)} {d : DataW H} (h : d ∈ parts) : Rows.uptoBulk d ≤ Rows.uptoBulk (.agg parts) := by
  have := bulk_part h
  simp only [Rows.uptoBulk]
  omega
end

section
variable {H : Type} {enc : TypeId × Value → H} {w : World} {base : Nat} {spare : Nat → Bool} {held : Bool}
theorem cell_spot {a : Addr} {v : Value} (h : w.cell? (a.add 0) = some v) : ∃ b o, a = ⟨b, o, none⟩ := by
  obtain ⟨b, o, spot⟩ := a
  have hspot : spot = none := by simpa [Addr.add] using World.cell?_spot h
  subst hspot
  exact ⟨b, o, rfl⟩
theorem wf_u32_bd {n : Int} (h : (Lit.int .u32 n).wf = true) : 0 ≤ n ∧ n ≤ 4294967295 := by
  have := bounds_u32 h
  omega
theorem wf_i64_bd {n : Int} (h : (Lit.int .i64 n).wf = true) : I64 n := by
  have := bounds_i64 h
  exact ⟨by omega, by omega⟩
theorem cells32 : Tryd.prog.cellsOf 42 = 1 := by kernel_rfl
theorem cellsBool : Tryd.prog.cellsOf 4 = 1 := by kernel_rfl
theorem cellsInt : Tryd.prog.cellsOf 3 = 1 := by kernel_rfl
theorem cellsLimbs : Tryd.prog.cellsOf 22 = 1 := by kernel_rfl
theorem cellsDyd : Tryd.prog.cellsOf 24 = 3 := by kernel_rfl
/-- limbs -/
theorem open_limbs {fuel : Nat} {cs : List Value} {x : DataW H × List MemPlace} (h : DataW.trod enc Tryd.prog w base spare held fuel 22 cs = some x) :
    ∃ (a : Option Addr) (xs : List Nat) (c : Nat), cs = [.slice a xs.length c] ∧ Rd w a xs ∧ xs.length ≤ c ∧ c ≤ maxLen ∧ xs.length ≤ Rows.uptoBulk x.1 := by
  rcases open_ints Tryd.underlying22 Tryd.underlying42 cells32 h with ⟨hcs, hx⟩ | ⟨a, len, cap, zs, hcs, _, hl, hm, hz, hx, hcell, hwz⟩
  · exact ⟨none, [], 0, hcs, .nil _ _, Nat.le_refl _, by unfold maxLen; omega, Nat.zero_le _⟩
  · have hle : len ≤ zs.length := by rw [hz]; split <;> omega
    have hlen : ((zs.take len).map Int.toNat).length = len := by simp; omega
    refine ⟨some a, (zs.take len).map Int.toNat, cap, by rw [hlen]; exact hcs, ⟨?_, ?_⟩, by omega, hm, ?_⟩
    · intro y hy
      obtain ⟨z, hz', rfl⟩ := List.mem_map.1 hy
      have := wf_u32_bd (hwz z (List.mem_of_mem_take hz'))
      omega
    · by_cases h0 : len = 0
      · exact .inl (by rw [h0]; simp)
      · obtain ⟨b, o, rfl⟩ := cell_spot (hcell 0 (by omega))
        refine .inr ⟨b, o, rfl, fun i hi => ?_⟩
        rw [hlen] at hi
        have hc := hcell i (by omega)
        rw [Addr.add_lit] at hc
        have hw := wf_u32_bd (hwz (zs[i]'(by omega)) (List.getElem_mem _))
        have e : nth ((zs.take len).map Int.toNat) i = (zs[i]'(by omega)).toNat := by
          rw [nth_eq (by rw [hlen]; exact hi)]
          simp
        have e2 : zs.getD i 0 = zs[i]'(by omega) := by simp [List.getD, List.getElem?_eq_getElem (show i < zs.length by omega)]
        rw [hc, e, e2, Int.toNat_of_nonneg hw.1]
    · rw [hx]
      show _ ≤ Rows.uptoBulk (DataW.slice _ _)
      refine Nat.le_trans ?_ (bulk_slice _ _)
      simp [lits]
theorem list3 {α : Type} {l : List α} (h : l.length = 3) : ∃ a b c, l = [a, b, c] := by
  match l, h with
  | [a, b, c], _ => exact ⟨a, b, c, rfl⟩
/-- a number -/
theorem open_dyd {fuel : Nat} {cs : List Value} {x : DataW H × List MemPlace} (h : DataW.trod enc Tryd.prog w base spare held fuel 24 cs = some x) (hb : Rows.uptoBulk x.1 ≤ 1048576) :
    ∃ y : RD, cs = [.bool y.neg, .slice y.a y.xs.length y.c, .int .i64 y.e] ∧ y.rd w := by
  obtain ⟨xs, n, _, hx, hlen, hxl, hf⟩ := DataW.trod_struct Tryd.underlying24 h
  replace hlen := hlen.trans cellsDyd
  obtain ⟨c0, c1, c2, rfl⟩ := list3 hlen
  obtain ⟨y0, y1, y2, rfl⟩ := list3 hxl
  have h0 : DataW.trod enc Tryd.prog w base spare held n 4 (([c0, c1, c2].drop 0).take (Tryd.prog.cellsOf 4)) = some y0 := hf 0 _ rfl
  have h1 : DataW.trod enc Tryd.prog w base spare held n 22 (([c0, c1, c2].drop 1).take (Tryd.prog.cellsOf 22)) = some y1 := hf 1 _ rfl
  have h2 : DataW.trod enc Tryd.prog w base spare held n 3 (([c0, c1, c2].drop 2).take (Tryd.prog.cellsOf 3)) = some y2 := hf 2 _ rfl
  rw [cellsBool] at h0
  rw [cellsLimbs] at h1
  rw [cellsInt] at h2
  have h0 : DataW.trod enc Tryd.prog w base spare held n 4 [c0] = some y0 := h0
  have h1 : DataW.trod enc Tryd.prog w base spare held n 22 [c1] = some y1 := h1
  have h2 : DataW.trod enc Tryd.prog w base spare held n 3 [c2] = some y2 := h2
  obtain ⟨s, e0, _⟩ := DataW.trod_bool Tryd.underlying4 h0
  obtain ⟨a, zs, c, e1, hr, hc, hm, hbz⟩ := open_limbs h1
  obtain ⟨e, e2, _, hw⟩ := DataW.trod_int Tryd.underlying3 h2
  simp only [List.cons.injEq, and_true] at e0 e1 e2
  subst e0 e1 e2
  have hy1 : y1.1 ∈ [y0, y1, y2].map (·.1) := by simp
  have hle : Rows.uptoBulk y1.1 ≤ Rows.uptoBulk x.1 := by rw [hx]; exact bulk_agg hy1
  exact ⟨⟨s, a, zs, c, e⟩, rfl, hr, hc, hm, by show zs.length ≤ _; omega, wf_i64_bd hw⟩
theorem list7 {α : Type} {l : List α} (h : l.length = 7) : ∃ a b c d e f g, l = [a, b, c, d, e, f, g] := by
  match l, h with
  | [a, b, c, d, e, f, g], _ => exact ⟨a, b, c, d, e, f, g, rfl⟩
instance : Inhabited RD := ⟨⟨false, none, [], 0, 0⟩⟩
instance : Inhabited RI := ⟨⟨default, default, false⟩⟩
/-- a slice of numbers -/
theorem open_rowD {fuel : Nat} {cs : List Value} {x : DataW H × List MemPlace} (h : DataW.trod enc Tryd.prog w base spare held fuel 73 cs = some x) (hb : Rows.uptoBulk x.1 ≤ 1048576) :
    ∃ (a : Option Addr) (zs : List RD) (c : Nat), cs = [.slice a zs.length c] ∧ RowD w a zs ∧ zs.length ≤ 1048576 := by
  rcases open_slice Tryd.underlying73 h with ⟨hcs, hx⟩ | ⟨a, len, cap, m, n, D, Pl, hcs, _, hl, hm, hmm, hx, hi⟩
  · exact ⟨none, [], 0, hcs, fun i x hx => by simp at hx, Nat.zero_le _⟩
  · have hle : len ≤ m := by rw [hmm]; split <;> omega
    have hbl : ∀ i, i < len → Rows.uptoBulk (D i) ≤ 1048576 := fun i hil => by
      refine Nat.le_trans ?_ hb
      rw [hx]
      exact bulk_elem (List.mem_map.2 ⟨i, List.mem_range.2 hil, rfl⟩)
    have hll : len ≤ 1048576 := by
      refine Nat.le_trans ?_ hb
      rw [hx]
      refine Nat.le_trans ?_ (bulk_slice _ _)
      simp
    obtain ⟨f, hf⟩ := choose_lt (α := RD) (n := len) (p := fun i y => w.cells? base (a.add (i * 3)) 3 = some [.bool y.neg, .slice y.a y.xs.length y.c, .int .i64 y.e] ∧ y.rd w) (fun i hil => by
      obtain ⟨cs', h1, h2⟩ := hi i (by omega)
      rw [cellsDyd] at h1
      obtain ⟨y, e, hr⟩ := open_dyd h2 (hbl i hil)
      exact ⟨y, by rw [h1, e], hr⟩)
    have hfl : ((List.range len).map f).length = len := by simp
    refine ⟨some a, (List.range len).map f, cap, by rw [hfl]; exact hcs, fun i x hx => ?_, by omega⟩
    have hil : i < len := by have := (List.getElem?_eq_some_iff.1 hx).1; rwa [hfl] at this
    rw [List.getElem?_map, List.getElem?_range hil] at hx
    cases hx
    obtain ⟨h1, h2⟩ := hf i hil
    obtain ⟨_, _, hat⟩ := World.cells?_some h1
    have h0 := hf 0 (by omega)
    have hspot : ∃ b o, a = ⟨b, o, none⟩ := by
      obtain ⟨_, _, hat0⟩ := World.cells?_some h0.1
      have := hat0 0 (by decide)
      rw [Nat.zero_mul, add_add] at this
      exact cell_spot this
    obtain ⟨b, o, rfl⟩ := hspot
    have key (j : Nat) (hj : j < 3) (u : Value) (hu : ([.bool (f i).neg, .slice (f i).a (f i).xs.length (f i).c, .int .i64 (f i).e] : List Value)[j]? = some u) : w.cell? ⟨b, o + i * 3 + j, none⟩ = some u := by
      have := hat j hj
      rw [add_add, Addr.add_lit, hu, ← Nat.add_assoc] at this
      exact this
    exact ⟨b, o, rfl, h2, key 0 (by decide) _ rfl, key 1 (by decide) _ rfl, key 2 (by decide) _ rfl⟩
end
end Go.Proofs.YtndbnfeapdkoaaaDoor
end

section
namespace Go.Proofs.YtndbnfeapdkoaaaDoor
open Go.ChangeShapes Go.WideShapes Go.ChangeAt Go.RowKit

theorem ownKnobs : ownKnob Tryd.prog.godebug = none := by kernel_rfl
theorem laidOutSeat : laidOutB Tryd.prog = true := by kernel_rfl
theorem gTab : Tryd.prog.globalNamed "math/bits.deBruijn32tab" = some 0 := by kernel_rfl
theorem gTabType : (Tryd.prog.globals[0]?).map (·.type) = some 90 := by kernel_rfl
theorem cellsTab : Tryd.prog.cellsOf 90 = 32 := by kernel_rfl
theorem cellsByte : Tryd.prog.cellsOf 5 = 1 := by kernel_rfl
def tabInts : List Int := [0, 1, 28, 2, 29, 14, 24, 3, 30, 22, 20, 15, 25, 17, 4, 8, 31, 27, 13, 23, 21, 19, 16, 7, 26, 12, 18, 6, 11, 5, 10, 9]

/-- what the row's list gives: the table's cells hold its numbers -/
theorem tab_of_laid {W : World} (h : laidMetH Tryd.prog [("math/bits.deBruijn32tab", Rows.laid_math_bits_deBruijn32tab)] W) : Tab W := by
  have T : Lib.TabIs Tryd.prog W "math/bits.deBruijn32tab" .u8 tabInts :=
    Lib.tabIs_of_head (rest := []) gTab gTabType Tryd.underlying90 Tryd.underlying5 cellsByte cellsTab h
  intro j hj
  have hc := T.cell gTab j hj
  rw [hc]
  have e : ∀ j : Fin 32, tabInts.getD j.1 0 = ((Lib.deBruijn32tab.getD j.1 0 : Nat) : Int) := by decide
  exact congrArg some (congrArg (Value.int IntKind.u8) (e ⟨j, hj⟩))

/-- a world for the witness: the settled one, the table holding what its initialiser lays -/
noncomputable def laidWorld (os : Os) : World :=
  { World.holding Tryd.prog os ⟨#[], #[], []⟩ with heap := (World.holding Tryd.prog os ⟨#[], #[], []⟩).heap.modify 0 fun
      | .cells _ t frozen => .cells (tabInts.map fun z => Value.int .u8 z).toArray t frozen
      | o => o }

section
variable {H : Type} {enc : TypeId × Value → H} {P : Program}
theorem post_of_below {f : Func} {s : ChangeSpec} {apart fresh handsOn again : Bool} {W W' : World} {args : Array Value} {v : Value} {ds gs : List (DataW H)} {before pa pv : List MemPlace}
    (hW : DataW.Whole enc P f.params.toList s.vars apart W args.toList ds gs before)
    (hres : ∀ (b : Nat) (sp : Nat → Bool) (hd : Bool), DataW.TrodAll enc P W' b sp hd f.resultTypes.toList (v.resultList f.resultTypes.size) (s.fn H (ds ++ gs)).results [])
    (hargs : ∀ sp : Nat → Bool, (∀ p ∈ before, sp p.block = true) → DataW.TrodAll enc P W' 0 sp true f.params.toList args.toList (s.fn H (ds ++ gs)).args pa)
    (hvars : ∀ sp : Nat → Bool, (∀ p ∈ before, sp p.block = true) → DataW.TrodVars enc P W' sp s.vars (s.fn H (ds ++ gs)).vars pv)
    (hps : before = pa ++ pv) (hb : Below W.heap.size W W')
    (hok : ∀ (j : Nat) (t : TypeId) (r : Value), f.resultTypes[j]? = some t → (v.resultList f.resultTypes.size)[j]? = some r → Value.okWide P W' .any 0 t r) :
    s.post enc P f apart fresh handsOn again W args v W' := by
  have hlt : ∀ p ∈ before, p.block < W.heap.size := fun p hp => hW.lt p hp
  have hold : ∀ p ∈ before, (fun b => decide (b < W.heap.size)) p.block = true := fun p hp => by simpa using hlt p hp
  refine ⟨ds, gs, before, [], pa, pv, hW, hres _ _ _, hargs _ hold, hvars _ hold, World.keptBut_mono (fun p hp => ⟨hp, ?_⟩) (hb.frame (· ∈ before)), fun _ => ?_⟩
  · rw [hps, List.mem_append] at hp
    exact Or.inr hp
  · obtain ⟨_, _, _, _, _, hz, hn⟩ := hW
    refine ⟨hok, _, _, ([] ++ pa) ++ pv, ⟨[] ++ pa, pv, trodAll_append (hargs _ (fun _ _ => rfl)) (hres _ _ _), hvars _ (fun _ _ => rfl), rfl, ?_, ?_⟩, ?_⟩
    · intro b off hp
      have hin : MemPlace.cell b off ∈ before := by rw [hps]; simpa using hp
      rw [hb.frozen (hlt _ hin)]
      exact hz b off hin
    · intro ha
      have := hn ha
      rw [hps] at this
      simpa using this
    · intro p hp _
      rw [hps]
      simpa using hp
end
/-- the bound, as the form hands it over -/
theorem bulk_bound {H : Type} {l : List (DataW H)} {d : DataW H} (hk : Rows.uptoSmall H l = true) (h : d ∈ l) : Rows.uptoBulk d ≤ 1048576 :=
  Nat.le_trans (bulk_part h) (of_decide_eq_true hk)
end Go.Proofs.YtndbnfeapdkoaaaDoor
end

section
namespace Go.Proofs.YtndbnfeapdkoaaaDoor
open Go.RowKit

/-- the result is the dyadic number d and the error f -/
def DyE (w : World) (d : Dy) (f : Int) (e : Ending) (w' : World) : Prop :=
  ∃ a c, e = .returned (.tuple #[.agg #[.bool d.neg, .slice a (limbs d.m).length c, .int .i64 d.e], .int .i64 f]) ∧ Rd w' a (limbs d.m) ∧ (limbs d.m).length ≤ c ∧ c ≤ maxLen ∧ Kp w w'
theorem dyE_zero {w w' : World} {f : Int} {e : Ending} (he : e = .returned (.tuple #[.agg #[.bool false, .slice none 0 0, .int .i64 0], .int .i64 f])) (hk : Kp w w') : DyE w .zero f e w' := by
  subst he
  refine ⟨none, 0, ?_, ?_, ?_, by unfold maxLen; omega, hk⟩
  · show _ = Ending.returned (.tuple #[.agg #[.bool false, .slice none (limbs 0).length 0, .int .i64 0], .int .i64 f])
    rw [limbs_zero]; rfl
  · show Rd w' none (limbs 0)
    rw [limbs_zero]; exact .nil _ _
  · show (limbs 0).length ≤ 0
    rw [limbs_zero]; exact Nat.le_refl _
/-- checked -/
def chk (d : Dy) : Dy × Int := if inrB d.m d.e then (d, 0) else (.zero, 9)

set_option maxHeartbeats 2000000 in
theorem checked_any (d : Dy) (a : Option Addr) (c : Nat) (w : World) (h : Rd w a (limbs d.m)) (hc : (limbs d.m).length ≤ c) (hm : c ≤ maxLen) (hl : (limbs d.m).length ≤ 1100000) (he : I64 d.e) :
    Calls Tryd.prog 29 #[.agg #[.bool d.neg, .slice a (limbs d.m).length c, .int .i64 d.e]] w (DyE w (chk d).1 (chk d).2) := by
  have hr := inRange_any d.neg a (limbs d.m) c d.e ((w.alloc (.cells #[.bool d.neg, .slice a (limbs d.m).length c, .int .i64 d.e] 24)).alloc (.cells #[.bool false, .slice none 0 0, .int .i64 0] 24)) (h.kp (((Kp.refl w).alloc _).alloc _)) hc hm hl he
  rw [val_limbs] at hr
  have Hr := Lib.hid hr
  clear hr
  cases hi : inrB d.m d.e with
  | true =>
    rw [hi] at Hr
    have Hd := Lib.hid (show chk d = (d, 0) by unfold chk; rw [hi]; rfl)
    clear hi
    go_enter Tryd.func29, Tryd.ntmps29
    go_wp2_with fail
    refine Hr.out.mono ?_
    rintro e w1 ⟨rfl, hk⟩
    obtain ⟨c0, c1, c2, _⟩ := (Box3.new1 w (.bool d.neg) (.slice a (limbs d.m).length c) (.int .i64 d.e) 24 (.cells #[.bool false, .slice none 0 0, .int .i64 0] 24)).kp hk
    obtain ⟨q0, q1, q2, f0, f1, f2⟩ := (Box3.new2 w (.bool false) (.slice none 0 0) (.int .i64 0) 24 (.cells #[.bool d.neg, .slice a (limbs d.m).length c, .int .i64 d.e] 24)).kp hk
    have hk2 := (((Kp.refl w).alloc _).alloc _).trans hk
    go_wp2_with fail
    have hst := stored q0 q1 q2 (fun _ h => by cases h) (fun _ h => by cases h) (fun _ h => by cases h) (.bool d.neg) (.slice a (limbs d.m).length c) (.int .i64 d.e)
    generalize (((w1.setCell _ _).setCell _ _).setCell _ _) = W at hst ⊢
    obtain ⟨s0, s1, s2, _, s4, s5, _, _⟩ := hst
    refine bodyPost_ret (v := .tuple #[.agg #[.bool d.neg, .slice a (limbs d.m).length c, .int .i64 d.e], .int .i64 0]) (by simp [results, Tryd.results29, go_sem, s0, s1, s2]) rfl ?_
    rw [Hd.out]
    exact ⟨a, c, rfl, s4 _ _ (h.kp hk2), hc, hm, s5 _ hk2 (by omega)⟩
  | false =>
    rw [hi] at Hr
    have Hd := Lib.hid (show chk d = (.zero, 9) by unfold chk; rw [hi]; rfl)
    clear hi
    go_enter Tryd.func29, Tryd.ntmps29
    go_wp2_with fail
    refine Hr.out.mono ?_
    rintro e w1 ⟨rfl, hk⟩
    obtain ⟨q0, q1, q2, f0, f1, f2⟩ := (Box3.new2 w (.bool false) (.slice none 0 0) (.int .i64 0) 24 (.cells #[.bool d.neg, .slice a (limbs d.m).length c, .int .i64 d.e] 24)).kp hk
    have hk2 := (((Kp.refl w).alloc _).alloc _).trans hk
    go_wp2_with fail
    have hst := stored q0 q1 q2 (fun _ h => by cases h) (fun _ h => by cases h) (fun _ h => by cases h) (.bool false) (.slice none 0 0) (.int .i64 0)
    generalize (((w1.setCell _ _).setCell _ _).setCell _ _) = W at hst ⊢
    obtain ⟨s0, s1, s2, _, s4, s5, _, _⟩ := hst
    refine bodyPost_ret (v := .tuple #[.agg #[.bool false, .slice none 0 0, .int .i64 0], .int .i64 9]) (by simp [results, Tryd.results29, go_sem, s0, s1, s2]) rfl ?_
    rw [Hd.out]
    exact dyE_zero rfl (s5 _ hk2 (by omega))
end Go.Proofs.YtndbnfeapdkoaaaDoor
end

section
namespace Go.Proofs.YtndbnfeapdkoaaaDoor
open Go.RowKit

theorem canon_len (s : Bool) (n : Nat) (e : Int) : (limbs (canon s n e).m).length ≤ (limbs n).length := by
  unfold canon
  split
  · show (limbs 0).length ≤ _; rw [limbs_zero]; exact Nat.zero_le _
  · exact limbs_length_mono (Nat.div_le_self _ _)
theorem canon_e (s : Bool) {n : Nat} {e : Int} (h0 : -1000000000 ≤ e) (h1 : e ≤ 1000000000) (hb : (limbs n).length ≤ 256) : -1000000000 ≤ (canon s n e).e ∧ (canon s n e).e ≤ 1000010000 := by
  unfold canon
  split
  · exact ⟨by decide, by decide⟩
  · next h =>
    have e1 := bits_oddp h
    obtain ⟨k, hk⟩ : ∃ k : Nat, k = 256 := ⟨_, rfl⟩
    rw [← hk] at hb
    have e2 : bits n ≤ 32 * k := bits_le.2 (by rw [← pow32]; exact limbs_length_le.1 hb)
    simp only []
    omega

set_option maxHeartbeats 2000000 in
theorem Make_any (s : Bool) (a : Option Addr) (xs : List Nat) (c : Nat) (ex : Int) (w : World) (h : Rd w a xs) (hc : xs.length ≤ c) (hm : c ≤ maxLen) (hl : xs.length ≤ 256) (he0 : -32768 ≤ ex) (he1 : ex ≤ 32768) (hT : Tab w) :
    Calls Tryd.prog 89 #[.bool s, .slice a xs.length c, .int .i64 ex] w (DyE w (chk (canon s (val xs) ex)).1 (chk (canon s (val xs) ex)).2) := by
  have hE := exponent_any ex (w.alloc (.cells #[.bool false, .slice none 0 0, .int .i64 0] 24)) ⟨by omega, by omega⟩
  rw [show expB ex = true from decide_eq_true ⟨he0, he1⟩] at hE
  have HE := Lib.hid hE
  have hll := limbs_len_le h.lt32
  have hlen := canon_len s (val xs) ex
  have hee := canon_e s (show -1000000000 ≤ ex by omega) (show ex ≤ 1000000000 by omega) (show (limbs (val xs)).length ≤ 256 by omega)
  clear hE
  go_enter Tryd.func89, Tryd.ntmps89
  go_wp2_with fail
  refine HE.out.mono ?_
  rintro e w1 ⟨rfl, rfl⟩
  go_wp2_with fail
  refine (canonical_any s a xs c ex _ (h.kp ((Kp.refl w).alloc _)) hc hm hl (by omega) (by omega) (hT.kp ((Kp.refl w).alloc _))).mono ?_
  rintro e w2 ⟨a2, c2, rfl, h2, h3, h4, h5⟩
  generalize canon s (val xs) ex = D at *
  go_wp2_with fail
  refine (checked_any D a2 c2 _ h2 h3 h4 (by omega) ⟨by omega, by omega⟩).mono ?_
  rintro e w3 ⟨a3, c3, rfl, h6, h7, h8, h9⟩
  generalize (chk D).1 = F at *
  generalize (chk D).2 = f at *
  have hk := h5.trans h9
  obtain ⟨q0, q1, q2, f0, f1, f2⟩ := (Box3.new w (.bool false) (.slice none 0 0) (.int .i64 0) 24).kp hk
  have hk2 := ((Kp.refl w).alloc _).trans hk
  go_wp2_with fail
  have hst := stored q0 q1 q2 (fun _ h => by cases h) (fun _ h => by cases h) (fun _ h => by cases h) (.bool F.neg) (.slice a3 (limbs F.m).length c3) (.int .i64 F.e)
  generalize (((w3.setCell _ _).setCell _ _).setCell _ _) = W at hst ⊢
  obtain ⟨s0, s1, s2, _, s4, s5, _, _⟩ := hst
  refine bodyPost_ret (v := .tuple #[.agg #[.bool F.neg, .slice a3 (limbs F.m).length c3, .int .i64 F.e], .int .i64 f]) (by simp [results, Tryd.results89, go_sem, s0, s1, s2]) rfl ?_
  exact ⟨a3, c3, rfl, s4 _ _ h6, h7, h8, s5 _ hk2 (by omega)⟩
end Go.Proofs.YtndbnfeapdkoaaaDoor
end
