/-
  Walks: interval.known.
  Walks: interval.less, more, known, Whole.
  Walks: interval.Hull, Meet, of valid intervals other than All.
-/
import Derived.Test.YtkkiinbgjjjcoaaGreatDoorMRaw
section
namespace Go.Proofs.YtkkiinbgjjjcoaaGreatDoor
open Go.RowKit

/-- the cells of intervals, one behind the other -/
def RowI (w : World) (a : Option Addr) (zs : List RI) : Prop :=
  ∀ i x, zs[i]? = some x → ∃ b o, a = some ⟨b, o, none⟩ ∧ x.rd w ∧ w.cell? ⟨b, o + i * 7, none⟩ = some (.bool x.lo.neg) ∧ w.cell? ⟨b, o + i * 7 + 1, none⟩ = some (.slice x.lo.a x.lo.xs.length x.lo.c) ∧ w.cell? ⟨b, o + i * 7 + 2, none⟩ = some (.int .i64 x.lo.e) ∧
    w.cell? ⟨b, o + i * 7 + 3, none⟩ = some (.bool x.hi.neg) ∧ w.cell? ⟨b, o + i * 7 + 4, none⟩ = some (.slice x.hi.a x.hi.xs.length x.hi.c) ∧ w.cell? ⟨b, o + i * 7 + 5, none⟩ = some (.int .i64 x.hi.e) ∧ w.cell? ⟨b, o + i * 7 + 6, none⟩ = some (.bool x.all)
theorem RowI.kp {w w' : World} {a : Option Addr} {zs : List RI} (h : RowI w a zs) (k : Kp w w') : RowI w' a zs := by
  intro i x hi
  obtain ⟨b, o, rfl, hr, h0, h1, h2, h3, h4, h5, h6⟩ := h i x hi
  exact ⟨b, o, rfl, hr.kp k, k.cell h0, k.cell h1, k.cell h2, k.cell h3, k.cell h4, k.cell h5, k.cell h6⟩
/-- valid, and not All -/
def goodI (x : RI) : Bool := !x.all && x.vl
theorem goodI_ok {w : World} {x : RI} (h : x.rd w) : goodI x = true ↔ x.ok w := by
  unfold goodI RI.ok
  cases x.all <;> simp [h]

end Go.Proofs.YtkkiinbgjjjcoaaGreatDoor
end

section
namespace Go.Proofs.YtkkiinbgjjjcoaaGreatDoor
open Go.RowKit

/-- the lesser one -/
def lessR (x y : RD) : RD := if x.iv ≤ y.iv then x else y
/-- the greater one -/
def moreR (x y : RD) : RD := if y.iv ≤ x.iv then x else y
theorem keep33 {w w' : World} (k : Kp w w') {p0 p1 p2 q0 q1 q2 : Addr} {v0 v1 v2 u0 u1 u2 : Value}
    (h : (w.cell? p0 = some v0 ∧ w.cell? p1 = some v1 ∧ w.cell? p2 = some v2) ∧ w.cell? q0 = some u0 ∧ w.cell? q1 = some u1 ∧ w.cell? q2 = some u2) :
    (w'.cell? p0 = some v0 ∧ w'.cell? p1 = some v1 ∧ w'.cell? p2 = some v2) ∧ w'.cell? q0 = some u0 ∧ w'.cell? q1 = some u1 ∧ w'.cell? q2 = some u2 :=
  ⟨keep3 k h.1, keep3 k h.2⟩
theorem Box3.new3 (w : World) (x0 x1 x2 : Value) (t : TypeId) (o1 o2 : Obj) : Box3 (((w.alloc o1).alloc o2).alloc (.cells #[x0, x1, x2] t)) (w.heap.size + 2) x0 x1 x2 := by
  have := Box3.new ((w.alloc o1).alloc o2) x0 x1 x2 t
  rwa [World.size_alloc, World.size_alloc] at this

end Go.Proofs.YtkkiinbgjjjcoaaGreatDoor
end

section
namespace Go.Proofs.YtkkiinbgjjjcoaaGreatDoor
open Go.RowKit

/-- W is w but for cells of the block g that are of the call's own -/
def Upd (g : Nat) (w W : World) : Prop :=
  (∀ p : Addr, W.frozen? p = w.frozen? p) ∧ (∀ a xs, Rd w a xs → Rd W a xs) ∧ (∀ a : World, Kp a w → a.heap.size ≤ g → Kp a W) ∧ (∀ p : Addr, p.block ≠ g → W.cell? p = w.cell? p) ∧ W.heap.size = w.heap.size
theorem Upd.refl (g : Nat) (w : World) : Upd g w w := ⟨fun _ => rfl, fun _ _ h => h, fun _ h _ => h, fun _ _ => rfl, rfl⟩
theorem Upd.step {g : Nat} {w W : World} (h : Upd g w W) {i : Nat} {y : Value} (hc : W.cell? ⟨g, i, none⟩ = some y) (hy : ∀ n : Int, y ≠ .int .u32 n) (v : Value) : Upd g w (W.setCell ⟨g, i, none⟩ v) := by
  obtain ⟨h1, h2, h3, h4, h5⟩ := h
  refine ⟨fun p => by rw [← h1 p]; simp, fun a xs hr => (h2 a xs hr).other hc hy, fun a hk hg => (h3 a hk hg).set hg _, fun p hp => ?_, by rw [← h5]; simp⟩
  rw [cell_set_ne, h4 p hp]
  intro e; exact hp (by rw [← e])
theorem set_at {w : World} {g i j : Nat} {v u : Value} (hij : i ≠ j) (h : w.cell? ⟨g, j, none⟩ = some u) : (w.setCell ⟨g, i, none⟩ v).cell? ⟨g, j, none⟩ = some u := by
  rw [cell_set_ne (fun e => hij (by injection e))]; exact h
/-- the cells of an interval -/
def Box7 (w : World) (g : Nat) (x0 x1 x2 x3 x4 x5 x6 : Value) : Prop :=
  w.cell? ⟨g, 0, none⟩ = some x0 ∧ w.cell? ⟨g, 1, none⟩ = some x1 ∧ w.cell? ⟨g, 2, none⟩ = some x2 ∧ w.cell? ⟨g, 3, none⟩ = some x3 ∧ w.cell? ⟨g, 4, none⟩ = some x4 ∧ w.cell? ⟨g, 5, none⟩ = some x5 ∧ w.cell? ⟨g, 6, none⟩ = some x6
theorem Box7.kp {w w' : World} {g : Nat} {x0 x1 x2 x3 x4 x5 x6 : Value} (h : Box7 w g x0 x1 x2 x3 x4 x5 x6) (k : Kp w w') : Box7 w' g x0 x1 x2 x3 x4 x5 x6 := keep7 k h
theorem Box7.new (w : World) (x0 x1 x2 x3 x4 x5 x6 : Value) (t : TypeId) : Box7 (w.alloc (.cells #[x0, x1, x2, x3, x4, x5, x6] t)) w.heap.size x0 x1 x2 x3 x4 x5 x6 := by
  refine ⟨?_, ?_, ?_, ?_, ?_, ?_, ?_⟩ <;> simp
theorem stored7 {w : World} {g : Nat} {y0 y1 y2 y3 y4 y5 y6 : Value} (h : Box7 w g y0 y1 y2 y3 y4 y5 y6)
    (n0 : ∀ n : Int, y0 ≠ .int .u32 n) (n1 : ∀ n : Int, y1 ≠ .int .u32 n) (n2 : ∀ n : Int, y2 ≠ .int .u32 n) (n3 : ∀ n : Int, y3 ≠ .int .u32 n) (n4 : ∀ n : Int, y4 ≠ .int .u32 n) (n5 : ∀ n : Int, y5 ≠ .int .u32 n) (n6 : ∀ n : Int, y6 ≠ .int .u32 n)
    (x0 x1 x2 x3 x4 x5 x6 : Value) {W : World}
    (hW : (((((((w.setCell ⟨g, 0, none⟩ x0).setCell ⟨g, 1, none⟩ x1).setCell ⟨g, 2, none⟩ x2).setCell ⟨g, 3, none⟩ x3).setCell ⟨g, 4, none⟩ x4).setCell ⟨g, 5, none⟩ x5).setCell ⟨g, 6, none⟩ x6) = W) :
    Box7 W g x0 x1 x2 x3 x4 x5 x6 ∧ Upd g w W := by
  subst hW
  obtain ⟨h0, h1, h2, h3, h4, h5, h6⟩ := h
  have d (i j : Nat) (h : i ≠ j) : i ≠ j := h
  have u0 := (Upd.refl g w).step h0 n0 x0
  have u1 := u0.step (set_at (by decide) h1) n1 x1
  have u2 := u1.step (set_at (by decide) (set_at (by decide) h2)) n2 x2
  have u3 := u2.step (set_at (by decide) (set_at (by decide) (set_at (by decide) h3))) n3 x3
  have u4 := u3.step (set_at (by decide) (set_at (by decide) (set_at (by decide) (set_at (by decide) h4)))) n4 x4
  have u5 := u4.step (set_at (by decide) (set_at (by decide) (set_at (by decide) (set_at (by decide) (set_at (by decide) h5))))) n5 x5
  have u6 := u5.step (set_at (by decide) (set_at (by decide) (set_at (by decide) (set_at (by decide) (set_at (by decide) (set_at (by decide) h6)))))) n6 x6
  refine ⟨⟨?_, ?_, ?_, ?_, ?_, ?_, ?_⟩, u6⟩
  · exact set_at (by decide) (set_at (by decide) (set_at (by decide) (set_at (by decide) (set_at (by decide) (set_at (by decide) (cell_set_eq h0))))))
  · exact set_at (by decide) (set_at (by decide) (set_at (by decide) (set_at (by decide) (set_at (by decide) (cell_set_eq (set_at (by decide) h1))))))
  · exact set_at (by decide) (set_at (by decide) (set_at (by decide) (set_at (by decide) (cell_set_eq (set_at (by decide) (set_at (by decide) h2))))))
  · exact set_at (by decide) (set_at (by decide) (set_at (by decide) (cell_set_eq (set_at (by decide) (set_at (by decide) (set_at (by decide) h3))))))
  · exact set_at (by decide) (set_at (by decide) (cell_set_eq (set_at (by decide) (set_at (by decide) (set_at (by decide) (set_at (by decide) h4))))))
  · exact set_at (by decide) (cell_set_eq (set_at (by decide) (set_at (by decide) (set_at (by decide) (set_at (by decide) (set_at (by decide) h5))))))
  · exact cell_set_eq (set_at (by decide) (set_at (by decide) (set_at (by decide) (set_at (by decide) (set_at (by decide) (set_at (by decide) h6))))))

/-- none of the seven cells is frozen -/
def Frz (w : World) (g : Nat) : Prop :=
  w.frozen? ⟨g, 0, none⟩ = false ∧ w.frozen? ⟨g, 1, none⟩ = false ∧ w.frozen? ⟨g, 2, none⟩ = false ∧ w.frozen? ⟨g, 3, none⟩ = false ∧ w.frozen? ⟨g, 4, none⟩ = false ∧ w.frozen? ⟨g, 5, none⟩ = false ∧ w.frozen? ⟨g, 6, none⟩ = false
theorem Frz.kp {w w' : World} {g : Nat} {x0 x1 x2 x3 x4 x5 x6 : Value} (h : Frz w g) (b : Box7 w g x0 x1 x2 x3 x4 x5 x6) (k : Kp w w') : Frz w' g :=
  ⟨k.frozen b.1 h.1, k.frozen b.2.1 h.2.1, k.frozen b.2.2.1 h.2.2.1, k.frozen b.2.2.2.1 h.2.2.2.1, k.frozen b.2.2.2.2.1 h.2.2.2.2.1, k.frozen b.2.2.2.2.2.1 h.2.2.2.2.2.1, k.frozen b.2.2.2.2.2.2 h.2.2.2.2.2.2⟩
theorem Frz.new (w : World) (x0 x1 x2 x3 x4 x5 x6 : Value) (t : TypeId) : Frz (w.alloc (.cells #[x0, x1, x2, x3, x4, x5, x6] t)) w.heap.size := by
  refine ⟨?_, ?_, ?_, ?_, ?_, ?_, ?_⟩ <;> simp
/-- a variable of the call's own, with room for an interval -/
def Var7 (w : World) (g : Nat) : Prop := Box7 w g (.bool false) (.slice none 0 0) (.int .i64 0) (.bool false) (.slice none 0 0) (.int .i64 0) (.bool false) ∧ Frz w g
theorem Var7.kp {w w' : World} {g : Nat} (h : Var7 w g) (k : Kp w w') : Var7 w' g := ⟨h.1.kp k, h.2.kp h.1 k⟩
theorem Var7.alloc {w : World} {g : Nat} (h : Var7 w g) (o : Obj) : Var7 (w.alloc o) g := h.kp ((Kp.refl w).alloc o)
theorem Var7.new (w : World) (t : TypeId) : Var7 (w.alloc (.cells #[.bool false, .slice none 0 0, .int .i64 0, .bool false, .slice none 0 0, .int .i64 0, .bool false] t)) w.heap.size := ⟨Box7.new _ _ _ _ _ _ _ _ _, Frz.new _ _ _ _ _ _ _ _ _⟩
theorem Var7.new2 (w : World) (t : TypeId) (o1 o2 : Obj) : Var7 (((w.alloc o1).alloc o2).alloc (.cells #[.bool false, .slice none 0 0, .int .i64 0, .bool false, .slice none 0 0, .int .i64 0, .bool false] t)) (w.heap.size + 1 + 1) := by
  have := Var7.new ((w.alloc o1).alloc o2) t
  rwa [World.size_alloc, World.size_alloc] at this
/-- two intervals in a block of the call's own -/
theorem rowI_two (w : World) (x y : RI) (hx : x.rd w) (hy : y.rd w) (hax : x.all = false) (hay : y.all = false) (t : TypeId) : RowI (w.alloc (.cells #[.bool x.lo.neg, .slice x.lo.a x.lo.xs.length x.lo.c, .int .i64 x.lo.e, .bool x.hi.neg, .slice x.hi.a x.hi.xs.length x.hi.c, .int .i64 x.hi.e, .bool false, .bool y.lo.neg, .slice y.lo.a y.lo.xs.length y.lo.c, .int .i64 y.lo.e, .bool y.hi.neg, .slice y.hi.a y.hi.xs.length y.hi.c, .int .i64 y.hi.e, .bool false] t)) (some ⟨w.heap.size, 0, none⟩) [x, y] := by
  intro i z hi
  have hk := (Kp.refl w).alloc (.cells #[.bool x.lo.neg, .slice x.lo.a x.lo.xs.length x.lo.c, .int .i64 x.lo.e, .bool x.hi.neg, .slice x.hi.a x.hi.xs.length x.hi.c, .int .i64 x.hi.e, .bool false, .bool y.lo.neg, .slice y.lo.a y.lo.xs.length y.lo.c, .int .i64 y.lo.e, .bool y.hi.neg, .slice y.hi.a y.hi.xs.length y.hi.c, .int .i64 y.hi.e, .bool false] t)
  match i with
  | 0 =>
    simp only [List.getElem?_cons_zero, Option.some.injEq] at hi
    subst hi
    refine ⟨_, 0, rfl, hx.kp hk, ?_, ?_, ?_, ?_, ?_, ?_, ?_⟩ <;> simp [hax]
  | 1 =>
    simp only [List.getElem?_cons_succ, List.getElem?_cons_zero, Option.some.injEq] at hi
    subst hi
    refine ⟨_, 0, rfl, hy.kp hk, ?_, ?_, ?_, ?_, ?_, ?_, ?_⟩ <;> simp [hay]
  | i + 2 => simp at hi

/-- the hull -/
def hullI (x y : RI) : RI := ⟨lessR x.lo y.lo, moreR x.hi y.hi, false⟩
theorem lessR_ok {w : World} {x y : RD} (hx : x.ok w) (hy : y.ok w) : (lessR x y).ok w := by unfold lessR; split <;> assumption
theorem moreR_ok {w : World} {x y : RD} (hx : x.ok w) (hy : y.ok w) : (moreR x y).ok w := by unfold moreR; split <;> assumption
theorem lessR_iv (x y : RD) : (lessR x y).iv = min x.iv y.iv := by unfold lessR; split <;> omega
theorem moreR_iv (x y : RD) : (moreR x y).iv = max x.iv y.iv := by unfold moreR; split <;> omega
theorem RI.ok_mk {w : World} {x y : RD} (hx : x.ok w) (hy : y.ok w) (h : x.iv ≤ y.iv) : RI.ok w ⟨x, y, false⟩ := by
  refine ⟨⟨hx.1, hy.1⟩, rfl, ?_⟩
  show (if false = true then _ else _) = true
  have := @cmpZ_gt x.iv y.iv
  simp [hx.2, hy.2]; omega
theorem hullI_ok {w : World} {x y : RI} (hx : x.ok w) (hy : y.ok w) : (hullI x y).ok w := by
  refine RI.ok_mk (lessR_ok hx.lo hy.lo) (moreR_ok hx.hi hy.hi) ?_
  rw [lessR_iv, moreR_iv]
  have := hx.parts.2.2
  omega

theorem set77 {w : World} {g g1 g2 : Nat} (n1 : g1 ≠ g) (n2 : g2 ≠ g) {v0 v1 v2 v3 v4 v5 v6 u0 u1 u2 u3 u4 u5 u6 x0 x1 x2 x3 x4 x5 x6 : Value}
    (h : (w.cell? ⟨g1, 0, none⟩ = some v0 ∧ w.cell? ⟨g1, 1, none⟩ = some v1 ∧ w.cell? ⟨g1, 2, none⟩ = some v2 ∧ w.cell? ⟨g1, 3, none⟩ = some v3 ∧ w.cell? ⟨g1, 4, none⟩ = some v4 ∧ w.cell? ⟨g1, 5, none⟩ = some v5 ∧ w.cell? ⟨g1, 6, none⟩ = some v6) ∧ w.cell? ⟨g2, 0, none⟩ = some u0 ∧ w.cell? ⟨g2, 1, none⟩ = some u1 ∧ w.cell? ⟨g2, 2, none⟩ = some u2 ∧ w.cell? ⟨g2, 3, none⟩ = some u3 ∧ w.cell? ⟨g2, 4, none⟩ = some u4 ∧ w.cell? ⟨g2, 5, none⟩ = some u5 ∧ w.cell? ⟨g2, 6, none⟩ = some u6) :
    ((((((((w.setCell ⟨g, 0, none⟩ x0).setCell ⟨g, 1, none⟩ x1).setCell ⟨g, 2, none⟩ x2).setCell ⟨g, 3, none⟩ x3).setCell ⟨g, 4, none⟩ x4).setCell ⟨g, 5, none⟩ x5).setCell ⟨g, 6, none⟩ x6).cell? ⟨g1, 0, none⟩ = some v0 ∧ (((((((w.setCell ⟨g, 0, none⟩ x0).setCell ⟨g, 1, none⟩ x1).setCell ⟨g, 2, none⟩ x2).setCell ⟨g, 3, none⟩ x3).setCell ⟨g, 4, none⟩ x4).setCell ⟨g, 5, none⟩ x5).setCell ⟨g, 6, none⟩ x6).cell? ⟨g1, 1, none⟩ = some v1 ∧ (((((((w.setCell ⟨g, 0, none⟩ x0).setCell ⟨g, 1, none⟩ x1).setCell ⟨g, 2, none⟩ x2).setCell ⟨g, 3, none⟩ x3).setCell ⟨g, 4, none⟩ x4).setCell ⟨g, 5, none⟩ x5).setCell ⟨g, 6, none⟩ x6).cell? ⟨g1, 2, none⟩ = some v2 ∧ (((((((w.setCell ⟨g, 0, none⟩ x0).setCell ⟨g, 1, none⟩ x1).setCell ⟨g, 2, none⟩ x2).setCell ⟨g, 3, none⟩ x3).setCell ⟨g, 4, none⟩ x4).setCell ⟨g, 5, none⟩ x5).setCell ⟨g, 6, none⟩ x6).cell? ⟨g1, 3, none⟩ = some v3 ∧ (((((((w.setCell ⟨g, 0, none⟩ x0).setCell ⟨g, 1, none⟩ x1).setCell ⟨g, 2, none⟩ x2).setCell ⟨g, 3, none⟩ x3).setCell ⟨g, 4, none⟩ x4).setCell ⟨g, 5, none⟩ x5).setCell ⟨g, 6, none⟩ x6).cell? ⟨g1, 4, none⟩ = some v4 ∧ (((((((w.setCell ⟨g, 0, none⟩ x0).setCell ⟨g, 1, none⟩ x1).setCell ⟨g, 2, none⟩ x2).setCell ⟨g, 3, none⟩ x3).setCell ⟨g, 4, none⟩ x4).setCell ⟨g, 5, none⟩ x5).setCell ⟨g, 6, none⟩ x6).cell? ⟨g1, 5, none⟩ = some v5 ∧ (((((((w.setCell ⟨g, 0, none⟩ x0).setCell ⟨g, 1, none⟩ x1).setCell ⟨g, 2, none⟩ x2).setCell ⟨g, 3, none⟩ x3).setCell ⟨g, 4, none⟩ x4).setCell ⟨g, 5, none⟩ x5).setCell ⟨g, 6, none⟩ x6).cell? ⟨g1, 6, none⟩ = some v6) ∧ (((((((w.setCell ⟨g, 0, none⟩ x0).setCell ⟨g, 1, none⟩ x1).setCell ⟨g, 2, none⟩ x2).setCell ⟨g, 3, none⟩ x3).setCell ⟨g, 4, none⟩ x4).setCell ⟨g, 5, none⟩ x5).setCell ⟨g, 6, none⟩ x6).cell? ⟨g2, 0, none⟩ = some u0 ∧ (((((((w.setCell ⟨g, 0, none⟩ x0).setCell ⟨g, 1, none⟩ x1).setCell ⟨g, 2, none⟩ x2).setCell ⟨g, 3, none⟩ x3).setCell ⟨g, 4, none⟩ x4).setCell ⟨g, 5, none⟩ x5).setCell ⟨g, 6, none⟩ x6).cell? ⟨g2, 1, none⟩ = some u1 ∧ (((((((w.setCell ⟨g, 0, none⟩ x0).setCell ⟨g, 1, none⟩ x1).setCell ⟨g, 2, none⟩ x2).setCell ⟨g, 3, none⟩ x3).setCell ⟨g, 4, none⟩ x4).setCell ⟨g, 5, none⟩ x5).setCell ⟨g, 6, none⟩ x6).cell? ⟨g2, 2, none⟩ = some u2 ∧ (((((((w.setCell ⟨g, 0, none⟩ x0).setCell ⟨g, 1, none⟩ x1).setCell ⟨g, 2, none⟩ x2).setCell ⟨g, 3, none⟩ x3).setCell ⟨g, 4, none⟩ x4).setCell ⟨g, 5, none⟩ x5).setCell ⟨g, 6, none⟩ x6).cell? ⟨g2, 3, none⟩ = some u3 ∧ (((((((w.setCell ⟨g, 0, none⟩ x0).setCell ⟨g, 1, none⟩ x1).setCell ⟨g, 2, none⟩ x2).setCell ⟨g, 3, none⟩ x3).setCell ⟨g, 4, none⟩ x4).setCell ⟨g, 5, none⟩ x5).setCell ⟨g, 6, none⟩ x6).cell? ⟨g2, 4, none⟩ = some u4 ∧ (((((((w.setCell ⟨g, 0, none⟩ x0).setCell ⟨g, 1, none⟩ x1).setCell ⟨g, 2, none⟩ x2).setCell ⟨g, 3, none⟩ x3).setCell ⟨g, 4, none⟩ x4).setCell ⟨g, 5, none⟩ x5).setCell ⟨g, 6, none⟩ x6).cell? ⟨g2, 5, none⟩ = some u5 ∧ (((((((w.setCell ⟨g, 0, none⟩ x0).setCell ⟨g, 1, none⟩ x1).setCell ⟨g, 2, none⟩ x2).setCell ⟨g, 3, none⟩ x3).setCell ⟨g, 4, none⟩ x4).setCell ⟨g, 5, none⟩ x5).setCell ⟨g, 6, none⟩ x6).cell? ⟨g2, 6, none⟩ = some u6 := by
  have ne (a i j : Nat) (n : a ≠ g) : (⟨g, i, none⟩ : Addr) ≠ ⟨a, j, none⟩ := fun e => n (by injection e with e1; exact e1.symm)
  have key (a j : Nat) (n : a ≠ g) : (((((((w.setCell ⟨g, 0, none⟩ x0).setCell ⟨g, 1, none⟩ x1).setCell ⟨g, 2, none⟩ x2).setCell ⟨g, 3, none⟩ x3).setCell ⟨g, 4, none⟩ x4).setCell ⟨g, 5, none⟩ x5).setCell ⟨g, 6, none⟩ x6).cell? ⟨a, j, none⟩ = w.cell? ⟨a, j, none⟩ := by
    rw [cell_set_ne (ne a 6 j n), cell_set_ne (ne a 5 j n), cell_set_ne (ne a 4 j n), cell_set_ne (ne a 3 j n), cell_set_ne (ne a 2 j n), cell_set_ne (ne a 1 j n), cell_set_ne (ne a 0 j n)]
  simp only [key _ _ n1, key _ _ n2]
  exact h

end Go.Proofs.YtkkiinbgjjjcoaaGreatDoor
end
