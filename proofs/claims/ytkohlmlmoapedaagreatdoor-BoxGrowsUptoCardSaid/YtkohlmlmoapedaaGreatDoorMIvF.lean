/-
  Walks: interval.Meet, of valid intervals other than All.
-/
import Derived.Test.YtkohlmlmoapedaaGreatDoorMIvE
namespace Go.Proofs.YtkohlmlmoapedaaGreatDoor
open Go.RowKit

/-- what both have in common -/
def meetI (x y : RI) : RI := ⟨moreR x.lo y.lo, lessR x.hi y.hi, false⟩
/-- have they anything in common? -/
def meets (x y : RI) : Bool := decide ((moreR x.lo y.lo).iv ≤ (lessR x.hi y.hi).iv)

/-- this result -/
def MeetOut (x y : RI) (w : World) (e : Ending) (w' : World) : Prop :=
  e = .returned (.tuple #[if meets x y then .agg #[.bool (meetI x y).lo.neg, .slice (meetI x y).lo.a (meetI x y).lo.xs.length (meetI x y).lo.c, .int .i64 (meetI x y).lo.e, .bool (meetI x y).hi.neg, .slice (meetI x y).hi.a (meetI x y).hi.xs.length (meetI x y).hi.c, .int .i64 (meetI x y).hi.e, .bool (meetI x y).all] else .agg #[.bool false, .slice none 0 0, .int .i64 0, .bool false, .slice none 0 0, .int .i64 0, .bool false], .bool (meets x y)]) ∧ Kp w w'
theorem Var7.upd {w W : World} {g g' : Nat} (h : Var7 w g') (n : g' ≠ g) (u : Upd g w W) : Var7 W g' := by
  obtain ⟨⟨h0, h1, h2, h3, h4, h5, h6⟩, f0, f1, f2, f3, f4, f5, f6⟩ := h
  have e (j : Nat) : W.cell? ⟨g', j, none⟩ = w.cell? ⟨g', j, none⟩ := u.2.2.2.1 _ n
  have f (j : Nat) : W.frozen? ⟨g', j, none⟩ = w.frozen? ⟨g', j, none⟩ := u.1 _
  exact ⟨⟨(e 0).trans h0, (e 1).trans h1, (e 2).trans h2, (e 3).trans h3, (e 4).trans h4, (e 5).trans h5, (e 6).trans h6⟩,
    (f 0).trans f0, (f 1).trans f1, (f 2).trans f2, (f 3).trans f3, (f 4).trans f4, (f 5).trans f5, (f 6).trans f6⟩
theorem kp_ad (w : World) (o : Obj) : Kp w.drew (w.alloc o).drew := (Kp.refl w.drew).alloc o
theorem Var7.newd (w : World) (t : TypeId) : Var7 (w.alloc (.cells #[.bool false, .slice none 0 0, .int .i64 0, .bool false, .slice none 0 0, .int .i64 0, .bool false] t)).drew w.heap.size := (Var7.new w t).kp (Kp.refl _).drew
theorem set77a {w : World} {o1 o2 : Obj} {g1 g2 : Nat} (n1 : g1 < w.heap.size) (n2 : g2 < w.heap.size) {v0 v1 v2 v3 v4 v5 v6 u0 u1 u2 u3 u4 u5 u6 : Value}
    (h : ((w.alloc o1).cell? ⟨g1, 0, none⟩ = some v0 ∧ (w.alloc o1).cell? ⟨g1, 1, none⟩ = some v1 ∧ (w.alloc o1).cell? ⟨g1, 2, none⟩ = some v2 ∧ (w.alloc o1).cell? ⟨g1, 3, none⟩ = some v3 ∧ (w.alloc o1).cell? ⟨g1, 4, none⟩ = some v4 ∧ (w.alloc o1).cell? ⟨g1, 5, none⟩ = some v5 ∧ (w.alloc o1).cell? ⟨g1, 6, none⟩ = some v6) ∧ (w.alloc o1).cell? ⟨g2, 0, none⟩ = some u0 ∧ (w.alloc o1).cell? ⟨g2, 1, none⟩ = some u1 ∧ (w.alloc o1).cell? ⟨g2, 2, none⟩ = some u2 ∧ (w.alloc o1).cell? ⟨g2, 3, none⟩ = some u3 ∧ (w.alloc o1).cell? ⟨g2, 4, none⟩ = some u4 ∧ (w.alloc o1).cell? ⟨g2, 5, none⟩ = some u5 ∧ (w.alloc o1).cell? ⟨g2, 6, none⟩ = some u6) : ((w.alloc o2).cell? ⟨g1, 0, none⟩ = some v0 ∧ (w.alloc o2).cell? ⟨g1, 1, none⟩ = some v1 ∧ (w.alloc o2).cell? ⟨g1, 2, none⟩ = some v2 ∧ (w.alloc o2).cell? ⟨g1, 3, none⟩ = some v3 ∧ (w.alloc o2).cell? ⟨g1, 4, none⟩ = some v4 ∧ (w.alloc o2).cell? ⟨g1, 5, none⟩ = some v5 ∧ (w.alloc o2).cell? ⟨g1, 6, none⟩ = some v6) ∧ (w.alloc o2).cell? ⟨g2, 0, none⟩ = some u0 ∧ (w.alloc o2).cell? ⟨g2, 1, none⟩ = some u1 ∧ (w.alloc o2).cell? ⟨g2, 2, none⟩ = some u2 ∧ (w.alloc o2).cell? ⟨g2, 3, none⟩ = some u3 ∧ (w.alloc o2).cell? ⟨g2, 4, none⟩ = some u4 ∧ (w.alloc o2).cell? ⟨g2, 5, none⟩ = some u5 ∧ (w.alloc o2).cell? ⟨g2, 6, none⟩ = some u6 := by
  have key (a j : Nat) (n : a < w.heap.size) : (w.alloc o2).cell? ⟨a, j, none⟩ = (w.alloc o1).cell? ⟨a, j, none⟩ :=
    (Below.cell ((Kp.refl w).alloc o2) n).trans (Below.cell ((Kp.refl w).alloc o1) n).symm
  simp only [key _ _ n1, key _ _ n2]
  exact h

end Go.Proofs.YtkohlmlmoapedaaGreatDoor
