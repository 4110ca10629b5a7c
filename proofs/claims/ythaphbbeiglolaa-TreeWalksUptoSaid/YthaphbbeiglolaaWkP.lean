/-
  Walks: an element appended to the row in a box.
-/
import Derived.Test.YthaphbbeiglolaaWalE
namespace Go.Proofs.Ythaphbbeiglolaa
open Go.RowKit Go.Sort Go.Shelf

theorem setCell_swap (w : World) (p q : Addr) (u v : Value) (h : p.block ≠ q.block) : (w.setCell p u).setCell q v = (w.setCell q v).setCell p u := by
  have key : ∀ (a : Array Obj) (i j : Nat) (f g : Obj → Obj), i ≠ j → (a.modify i f).modify j g = (a.modify j g).modify i f := by
    intro a i j f g hij
    apply Array.ext
    · simp
    · intro k h1 h2
      simp only [Array.getElem_modify]
      by_cases e1 : i = k
      · subst e1
        have : j ≠ i := fun e => hij e.symm
        simp [this]
      · simp [e1]
  unfold World.setCell
  simp only [key _ _ _ _ _ h]
/-- the six cells of a node, one after the other -/
def put6 (w : World) (g o : Nat) (x : Ex) : World :=
  (((((w.setCell ⟨g, o, none⟩ (.int .i64 x.kind)).setCell ⟨g, o + 1, none⟩ (.int .i64 x.rn)).setCell ⟨g, o + 2, none⟩ (.int .i64 x.rd)).setCell ⟨g, o + 3, none⟩ (.string x.name)).setCell ⟨g, o + 4, none⟩ (.int .i64 x.pw)).setCell ⟨g, o + 5, none⟩ (.slice x.a x.l.length x.c)
theorem put6_swap (w : World) (g o : Nat) (x : Ex) (q : Addr) (v : Value) (h : g ≠ q.block) : (put6 w g o x).setCell q v = put6 (w.setCell q v) g o x := by
  unfold put6
  rw [setCell_swap _ ⟨g, o + 5, none⟩ q _ _ h, setCell_swap _ ⟨g, o + 4, none⟩ q _ _ h, setCell_swap _ ⟨g, o + 3, none⟩ q _ _ h, setCell_swap _ ⟨g, o + 2, none⟩ q _ _ h, setCell_swap _ ⟨g, o + 1, none⟩ q _ _ h, setCell_swap _ ⟨g, o, none⟩ q _ _ h]
theorem put6_row {w : World} {base g n c : Nat} {x : Ex} {l : List Value} {z0 z1 z2 z3 z4 z5 : Value} (h : w.ownsRow base 26 6 (.slice (some ⟨g, 0, none⟩) n c) n (l ++ [z0, z1, z2, z3, z4, z5])) {o : Nat} (ho : l.length = o) :
    (put6 w g o x).ownsRow base 26 6 (.slice (some ⟨g, 0, none⟩) n c) n (l ++ x.cells) ∧ w.grownBy (put6 w g o x) (some g) := by
  subst ho
  have s0 := h.stored l.length (.int .i64 x.kind)
  have s1 := s0.1.stored (l.length + 1) (.int .i64 x.rn)
  have s2 := s1.1.stored (l.length + 2) (.int .i64 x.rd)
  have s3 := s2.1.stored (l.length + 3) (.string x.name)
  have s4 := s3.1.stored (l.length + 4) (.int .i64 x.pw)
  have s5 := s4.1.stored (l.length + 5) (.slice x.a x.l.length x.c)
  refine ⟨?_, s0.2.trans (s1.2.trans (s2.2.trans (s3.2.trans (s4.2.trans s5.2))))⟩
  have e : l ++ x.cells = ((((((l ++ [z0, z1, z2, z3, z4, z5]).set l.length (.int .i64 x.kind)).set (l.length + 1) (.int .i64 x.rn)).set (l.length + 2) (.int .i64 x.rd)).set (l.length + 3) (.string x.name)).set (l.length + 4) (.int .i64 x.pw)).set (l.length + 5) (.slice x.a x.l.length x.c) := by
    simp [List.set_append_right, Ex.cells]
  rw [e]
  exact s5.1
theorem BoxX.grown {w w' : World} {g : Nat} {x : Ex} {row : Option Nat} (h : BoxX w g x) (hg : w.grownBy w' row) (hne : some g ≠ row) : BoxX w' g x := by
  obtain ⟨⟨q0, q1, q2, q3, q4, q5⟩, hf, hl⟩ := h
  exact ⟨⟨hg.cell q0 hne, hg.cell q1 hne, hg.cell q2 hne, hg.cell q3 hne, hg.cell q4 hne, hg.cell q5 hne⟩, fun i => (World.frozen?_of_block (a := ⟨g, i, none⟩) (hg.block g hl hne)).trans (hf i), Nat.lt_of_lt_of_le hl hg.size⟩
theorem lit_cell (w : World) (cs : Array Value) (t : TypeId) (j : Nat) (u : Value) (h : cs[j]? = some u) : (w.alloc (.cells cs t)).cell? ((⟨w.heap.size, 0, none⟩ : Addr).add j) = some u := by
  have e : (w.alloc (.cells cs t)).heap[w.heap.size]? = some (.cells cs t) := World.alloc_heap_new w _
  have ea : (⟨w.heap.size, 0, none⟩ : Addr).add j = ⟨w.heap.size, j, none⟩ := by
    unfold Addr.add
    by_cases hj : j = 0
    · subst hj; simp
    · simp [hj]
  rw [ea]
  unfold World.cell?
  simp only [e]
  simpa using h
/-- a store into the row that the box leads to -/
theorem kpT_row {Y Z : World} {B g n c : Nat} {t : TypeId} (hv : Boxed Y B t (.slice (some ⟨g, 0, none⟩) n c)) (hg : Y.grownBy Z (some g)) (hne : B ≠ g) : KpT (tSlice B) Y Z := by
  have hv' : Boxed Z B t (.slice (some ⟨g, 0, none⟩) n c) := hv.kept hg (fun e => hne (Option.some.inj e))
  have hsz := hg.size
  refine kpT_of hsz (fun j hj hx => ?_) (fun h => ⟨boxed_cellsAt hv', fun g' n' c' hc => ?_⟩) (fun h j hj => ?_)
  · exact hg.block j hj.lt (fun e => hx (.inr ⟨⟨g, 0, none⟩, n, c, hv.cell, Option.some.inj e⟩))
  · rw [hv'.cell] at hc
    have := h.2 ⟨g, 0, none⟩ n c hv.cell
    injection hc with hc
    injection hc with hc
    injection hc with hc
    subst hc
    exact Nat.lt_of_lt_of_le this hsz
  · rcases hj with rfl | ⟨g', n', c', hc, rfl⟩
    · exact .inl (.inl rfl)
    · rw [hv'.cell] at hc
      exact .inl (.inr ⟨g', n', c', by rw [hv.cell]; exact hc, rfl⟩)
end Go.Proofs.Ythaphbbeiglolaa
