/-
  Walks: tree.Names.
-/
import Derived.Test.YthaphbbeiglolaaSrtS
import Derived.RangeFuncBox
import Derived.Maps.OwnIn
import Derived.Maps.AppendAt
namespace Go.Proofs.Ythaphbbeiglolaa
open Go.RowKit Go.Sort Go.Shelf
attribute [local go_sem] Oper.semAt_some

/-- the names that come, in their order -/
def nmL (xs : List Ex) : List (List UInt8) := (xs.filter fun x => decide (x.kind = 2)).map fun x => x.name.data.toList
theorem nmL_snoc (pre : List Ex) (x : Ex) : nmL (pre ++ [x]) = nmL pre ++ (if x.kind = 2 then [x.name.data.toList] else []) := by
  unfold nmL
  rw [List.filter_append, List.map_append]
  by_cases h : x.kind = 2 <;> simp [h]
theorem nmL_er (xs : List Ex) : nmL (xs.map Ex.er) = nmL xs := by
  unfold nmL
  induction xs with
  | nil => rfl
  | cons x t ih =>
    rw [List.map_cons, List.filter_cons, List.filter_cons, Ex.er_kind]
    split
    · rw [List.map_cons, List.map_cons, Ex.er_name, ih]
    · exact ih
theorem nmL_le (xs : List Ex) : (nmL xs).length ≤ xs.length := by unfold nmL; rw [List.length_map]; exact List.length_filter_le _ _
/-- Names' answer -/
def namO (e : Ex) : List ByteArray := namesL (((flatE e).filter fun x : Ex => decide (x.kind = 2)).map Ex.name)
theorem namO_sort (e : Ex) : Lib.compact ((nmL (flatE e)).mergeSort leB) = (namO e).map (·.data.toList) := by
  obtain ⟨rs, h1, h2⟩ := sort_names (((flatE e).filter fun x : Ex => decide (x.kind = 2)).map Ex.name)
  rw [List.map_map] at h1
  rw [h2] at h1
  exact h1
theorem infoStr : (Try.prog.info? 9).map (fun i => (i.zero, i.size, i.bytes)) = some (some (.string ⟨#[]⟩), 1, 16) := by kernel_rfl
/-- the rounds write a box and the row that it leads to -/
def tSlice (B : Nat) : Turf where
  X := fun W k => k = B ∨ ∃ g n c, W.cell? ⟨B, 0, none⟩ = some (.slice (some g) n c) ∧ k = g.block
  G := fun W => CellsAt W B ∧ ∀ g n c, W.cell? ⟨B, 0, none⟩ = some (.slice (some g) n c) → g.block < W.heap.size
  lt := fun W k h hx => by
    rcases hx with rfl | ⟨g, n, c, h1, rfl⟩
    · exact h.1.lt
    · exact h.2 g n c h1
  kp' := fun W W' h k => by
    have e := cell_same (k.2 B h.1) 0
    refine ⟨⟨h.1.same (k.2 B h.1), fun g n c hc => ?_⟩, fun j hj => ?_⟩
    · rw [e] at hc
      exact Nat.lt_of_lt_of_le (h.2 g n c hc) k.1
    · rcases hj with rfl | ⟨g, n, c, h1, rfl⟩
      · exact .inl rfl
      · rw [e] at h1
        exact .inr ⟨g, n, c, h1, rfl⟩
theorem boxed_cellsAt {W : World} {B : Nat} {t : TypeId} {v : Value} (h : Boxed W B t v) : CellsAt W B := ⟨_, _, _, h⟩
/-- an append to the slice in the box, and its store there: what the turf asks -/
theorem tSlice_append {W w1 : World} {B n0 k m : Nat} {t e : TypeId} {size : Nat} {v v' : Value} {xs ys : List Value} {tmp : Obj} (hv : Boxed W B t v) (hrow : W.ownsRow n0 e size v k xs) (hown : w1.ownsRow n0 e size v' m ys)
    (hv2 : Boxed (w1.setCell ⟨B, 0, none⟩ v') B t v') (hg : (W.alloc tmp).grownBy w1 v.ownBlock) (hat : v'.ownBlock = v.ownBlock ∨ v'.ownBlock = some (W.alloc tmp).heap.size) : KpT (tSlice B) W (w1.setCell ⟨B, 0, none⟩ v') := by
  have hsz := hg.size
  simp only [World.size_alloc] at hsz hat
  have hblk : ∀ g n c, v = .slice (some g) n c → v.ownBlock = some g.block := fun g n c e => by rw [e]; rfl
  refine kpT_of (by simp; omega) (fun j hj hx => ?_) (fun h => ⟨boxed_cellsAt hv2, fun g n c hc => ?_⟩) (fun h j hj => ?_)
  · have hjB : j ≠ B := fun e => hx (.inl e)
    rw [Below.heap_setCell _ _ _ _ hjB]
    have hne : some j ≠ v.ownBlock := fun e => hx (.inr (by
      rcases hrow.2 with ⟨rfl, _⟩ | ⟨g, cap, cur, rfl, _⟩
      · cases e
      · refine ⟨_, _, _, hv.cell, ?_⟩
        simp only [Value.ownBlock, Option.some.injEq] at e
        exact e))
    rw [hg.block j (by simp only [World.size_alloc]; have := hj.lt; omega) hne]
    exact Below.heap_alloc _ _ _ hj.lt
  · rw [hv2.cell] at hc
    injection hc with hc
    subst hc
    rcases hown.2 with ⟨h0, _⟩ | ⟨g', cap, cur, e, _, hgb, _⟩
    · cases h0
    · injection e with e1
      injection e1 with e1
      subst e1
      simp only [World.size_setCell]
      exact (Array.getElem?_eq_some_iff.1 hgb).1
  · rcases hj with rfl | ⟨g, n, c, hc, rfl⟩
    · exact .inl (.inl rfl)
    · rw [hv2.cell] at hc
      injection hc with hc
      rcases hat with h1 | h1
      · rw [hc] at h1
        rcases hrow.2 with ⟨rfl, _⟩ | ⟨g', cap, cur, rfl, _⟩
        · cases h1
        · simp only [Value.ownBlock, Option.some.injEq] at h1
          exact .inl (.inr ⟨_, _, _, hv.cell, h1⟩)
      · rw [hc] at h1
        simp only [Value.ownBlock, Option.some.injEq] at h1
        exact .inr (by omega)
end Go.Proofs.Ythaphbbeiglolaa
