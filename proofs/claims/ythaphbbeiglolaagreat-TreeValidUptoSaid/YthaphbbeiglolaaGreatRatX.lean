/-
  Walks: tree.Rational.
-/
import Derived.Test.YthaphbbeiglolaaGreatSizN
namespace Go.Proofs.YthaphbbeiglolaaGreat
open Go.RowKit Go.Sort Go.Shelf
attribute [local go_sem] Oper.semAt_some

/-- Rational's answer -/
def ratO (e : Ex) : Bool := e.ok && (flatE e).all fun x => decide (x.kind < 9)
theorem ratO_all {e : Ex} {xs : List Ex} (h : xs.map Ex.er = flatE e) (h2 : ∀ x ∈ xs, x.kind < 9) : ratO e = e.ok := by
  unfold ratO
  rw [← h]
  have : (xs.map Ex.er).all (fun x => decide (x.kind < 9)) = true := by
    rw [List.all_eq_true]
    intro y hy
    obtain ⟨x, hx, rfl⟩ := List.mem_map.1 hy
    rw [Ex.er_kind]
    exact decide_eq_true (h2 x hx)
  rw [this, Bool.and_true]
theorem ratO_some {e : Ex} {xs : List Ex} (h : xs.map Ex.er <+: flatE e) {x : Ex} (hx : x ∈ xs) (h2 : ¬ x.kind < 9) : ratO e = false := by
  unfold ratO
  rw [Bool.and_eq_false_iff]
  refine .inr ?_
  rw [List.all_eq_false]
  exact ⟨x.er, h.subset (List.mem_map.2 ⟨x, hx, rfl⟩), by rw [Ex.er_kind]; simpa using h2⟩
theorem boxX_kept {W W' : World} {row : Option Nat} {g : Nat} {x : Ex} (h : BoxX W g x) (hg : W.grownBy W' row) (hrow : ∀ r, row = some r → ∃ o : Obj, W.heap[r]? = some o ∧ o.isCells = false) : BoxX W' g x := by
  obtain ⟨⟨q0, q1, q2, q3, q4, q5⟩, hf, hl⟩ := h
  obtain ⟨o, ho, hc⟩ := cells_of_cell q0
  have he := grownBy_keeps_cells hg hrow ho hc
  exact ⟨⟨cell_kept q0 hg hrow, cell_kept q1 hg hrow, cell_kept q2 hg hrow, cell_kept q3 hg hrow, cell_kept q4 hg hrow, cell_kept q5 hg hrow⟩, fun i => (World.frozen?_of_block (a := ⟨g, i, none⟩) he).trans (hf i), Nat.lt_of_lt_of_le hl hg.size⟩
end Go.Proofs.YthaphbbeiglolaaGreat
