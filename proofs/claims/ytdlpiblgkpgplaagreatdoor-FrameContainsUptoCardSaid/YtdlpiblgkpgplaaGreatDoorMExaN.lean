/-
  A number in a block of the call's own; stores beside two numbers.
-/
import Derived.Test.YtdlpiblgkpgplaaGreatDoorMOwnX
import Derived.Test.YtdlpiblgkpgplaaGreatDoorMSumH
import Derived.Test.YtdlpiblgkpgplaaGreatDoorMRoSq
namespace Go.Proofs.YtdlpiblgkpgplaaGreatDoor
open Go.RowKit

/-- block g, of the call's own, holds a number d -/
def HasD (w0 w : World) (g : Nat) (z : RD) (d : Dy) : Prop := (w.cell? ⟨g, 0, none⟩ = some (.bool z.neg) ∧ w.cell? ⟨g, 1, none⟩ = some (.slice z.a z.xs.length z.c) ∧ w.cell? ⟨g, 2, none⟩ = some (.int .i64 z.e)) ∧ z.ok w ∧ z.dy = d ∧ Kp w0 w ∧ w0.heap.size ≤ g
theorem HasD.kp {w0 w w' : World} {g : Nat} {z : RD} {d : Dy} (h : HasD w0 w g z d) (k : Kp w w') : HasD w0 w' g z d :=
  ⟨keep3 k h.1, h.2.1.kp k, h.2.2.1, h.2.2.2.1.trans k, h.2.2.2.2⟩
theorem hasD_alloc {w0 w : World} {z : RD} {d : Dy} (hz : z.ok w) (hd : z.dy = d) (k : Kp w0 w) (t : TypeId) : HasD w0 (w.alloc (.cells #[.bool z.neg, .slice z.a z.xs.length z.c, .int .i64 z.e] t)) w.heap.size z d :=
  ⟨by simp, hz.kp ((Kp.refl w).alloc _), hd, k.alloc _, k.size⟩
theorem hasD_store {w0 w : World} {g : Nat} {y0 y1 y2 : Value} (hB : Box3 w g y0 y1 y2) (n0 : ∀ n : Int, y0 ≠ .int .u32 n) (n1 : ∀ n : Int, y1 ≠ .int .u32 n) (n2 : ∀ n : Int, y2 ≠ .int .u32 n)
    {z : RD} {d : Dy} (hz : z.ok w) (hd : z.dy = d) (k : Kp w0 w) (hg : w0.heap.size ≤ g) :
    HasD w0 (((w.setCell ⟨g, 0, none⟩ (.bool z.neg)).setCell ⟨g, 1, none⟩ (.slice z.a z.xs.length z.c)).setCell ⟨g, 2, none⟩ (.int .i64 z.e)) g z d := by
  obtain ⟨s0, s1, s2, _, s4, s5, _, _⟩ := stored hB.1 hB.2.1 hB.2.2.1 n0 n1 n2 (.bool z.neg) (.slice z.a z.xs.length z.c) (.int .i64 z.e)
  exact ⟨⟨s0, s1, s2⟩, ⟨⟨s4 _ _ hz.1.1, hz.1.2⟩, hz.2⟩, hd, s5 _ k hg, hg⟩
theorem set33x {w : World} {g b o b2 o2 : Nat} (n : b ≠ g) (n2 : b2 ≠ g) {v0 v1 v2 v3 v4 v5 x0 x1 x2 : Value}
    (h : (w.cell? ⟨b, o, none⟩ = some v0 ∧ w.cell? ⟨b, o + 1, none⟩ = some v1 ∧ w.cell? ⟨b, o + 2, none⟩ = some v2) ∧ w.cell? ⟨b2, o2, none⟩ = some v3 ∧ w.cell? ⟨b2, o2 + 1, none⟩ = some v4 ∧ w.cell? ⟨b2, o2 + 2, none⟩ = some v5) :
    (fun W : World => (W.cell? ⟨b, o, none⟩ = some v0 ∧ W.cell? ⟨b, o + 1, none⟩ = some v1 ∧ W.cell? ⟨b, o + 2, none⟩ = some v2) ∧ W.cell? ⟨b2, o2, none⟩ = some v3 ∧ W.cell? ⟨b2, o2 + 1, none⟩ = some v4 ∧ W.cell? ⟨b2, o2 + 2, none⟩ = some v5)
      (((w.setCell ⟨g, 0, none⟩ x0).setCell ⟨g, 1, none⟩ x1).setCell ⟨g, 2, none⟩ x2) := by
  have ne (i j : Nat) : (⟨g, i, none⟩ : Addr) ≠ ⟨b, j, none⟩ := fun e => n (by injection e with e1; exact e1.symm)
  have ne2 (i j : Nat) : (⟨g, i, none⟩ : Addr) ≠ ⟨b2, j, none⟩ := fun e => n2 (by injection e with e1; exact e1.symm)
  have key (j : Nat) : (((w.setCell ⟨g, 0, none⟩ x0).setCell ⟨g, 1, none⟩ x1).setCell ⟨g, 2, none⟩ x2).cell? ⟨b, j, none⟩ = w.cell? ⟨b, j, none⟩ := by
    rw [cell_set_ne (ne 2 j), cell_set_ne (ne 1 j), cell_set_ne (ne 0 j)]
  have key2 (j : Nat) : (((w.setCell ⟨g, 0, none⟩ x0).setCell ⟨g, 1, none⟩ x1).setCell ⟨g, 2, none⟩ x2).cell? ⟨b2, j, none⟩ = w.cell? ⟨b2, j, none⟩ := by
    rw [cell_set_ne (ne2 2 j), cell_set_ne (ne2 1 j), cell_set_ne (ne2 0 j)]
  simp only [key, key2]
  exact h
theorem vl_snocD {W : List RD} {s : RD} (h : ∀ y ∈ W, y.vl = true) (hs : s.vl = true) : ∀ y ∈ W ++ [s], y.vl = true := by
  intro y hy
  rcases List.mem_append.1 hy with h1 | h1
  · exact h y h1
  · simp only [List.mem_singleton] at h1; subst h1; exact hs
end Go.Proofs.YtdlpiblgkpgplaaGreatDoor
