/-
  Walks: the seventh reference's Valid.
  Walks: matrix.Mul.
  Walks: matrix.each of a valid matrix of intervals.
-/
import Derived.Deep.LoopGhost
import Derived.Test.YtdlpiblgkpgplaaGreatDoorMRectM
import Derived.Test.YtdlpiblgkpgplaaGreatDoorMR2I
import Derived.Deep.AppendLies
import Derived.Test.YtdlpiblgkpgplaaGreatDoorMKnuE
import Derived.Deep.RegionLaw
section
namespace Go.Proofs.YtdlpiblgkpgplaaGreatDoor
open Go.RowKit

theorem colsM_eq {m : List (List RI)} {r0 : List RI} (h : m[0]? = some r0) : colsM m = r0.length := by
  unfold colsM
  cases m with
  | nil => simp at h
  | cons x t => simp at h; subst h; rfl
end Go.Proofs.YtdlpiblgkpgplaaGreatDoor
end

section
namespace Go.Proofs.YtdlpiblgkpgplaaGreatDoor
open Go.RowKit

theorem vlM_row0 {m : List (List RI)} (h : vlM m = true) : ∃ r, m[0]? = some r ∧ r.length = colsM m := by
  have h0 : 0 < m.length := (vlM_iff.1 h).1.1
  exact ⟨_, List.getElem?_eq_getElem h0, (vlM_row h (List.getElem?_eq_getElem h0)).1⟩
end Go.Proofs.YtdlpiblgkpgplaaGreatDoor
end

section
namespace Go.Proofs.YtdlpiblgkpgplaaGreatDoor
open Go.RowKit

/-- a matrix of these numbers -/
def MatV (w : World) (X : List (List PI)) (e : Ending) (w' : World) : Prop :=
  ∃ (a : Option Addr) (Z : List (List RI)) (c : Nat), e = .returned (.slice a Z.length c) ∧ RowM w' a Z ∧ plM Z = X ∧ okM Z ∧ Z.length ≤ 1100000 ∧ Kp w w'
end Go.Proofs.YtdlpiblgkpgplaaGreatDoor
end
