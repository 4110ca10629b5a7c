/-
  Plain: the coordinates of a move of a frame; no program in sight.
-/
import Derived.Test.YtbhmhfnfceakoaaGreatDoorMEchM
import Derived.Test.YtbhmhfnfceakoaaGreatDoorMLinP
import Derived.Test.YtbhmhfnfceakoaaGreatDoorMMulN
import Derived.Test.YtbhmhfnfceakoaaGreatDoorMApM
namespace Go.Proofs.YtbhmhfnfceakoaaGreatDoor
open Go.RowKit

def atX (X : List (List PI)) (i j : Nat) : PI := (X.getD i []).getD j .whole
theorem atX_tab {r c : Nat} {F : Nat → Nat → PI} {i j : Nat} (hi : i < r) (hj : j < c) : atX (tabM r c F) i j = F i j := by
  have h1 : (tabM r c F).getD i [] = rowF c (F i) := by
    unfold tabM
    rw [List.getD_eq_getElem?_getD, List.getElem?_map, List.getElem?_range hi]; rfl
  unfold atX
  rw [h1]
  unfold rowF
  rw [List.getD_eq_getElem?_getD, List.getElem?_map, List.getElem?_range hj]; rfl
def crdE (f g : RF) (j : List (List RI)) (z : List RI) (p : Int) : Int :=
  if (vlF f && (vlF g && (vlM j && z.all RI.vl))) = false then 1 else if preB p = false then 2 else
  if g.cs.length ≠ f.cs.length ∨ z.length ≠ f.cs.length ∨ j.length ≠ f.cs.length ∨ colsM j ≠ f.cs.length then 3 else 0
def crdX (f g : RF) (j : List (List RI)) (z : List RI) (W : Nat → Nat → PI) (q : Nat) : List PI :=
  rowF f.cs.length fun i => pAdd (dotF q (W i) (fun t => pSub (rowG z t) (ptP (g.cs.getD t rdZero)) q) (f.cs.length - 1))
    (dotF q (fun t => dotF q (W i) (fun s => dotF q (atP j s) (fun u => ptP (atN f.ms u t)) (f.cs.length - 1)) (f.cs.length - 1)) (rowG f.rs) (f.cs.length - 1)) q
def crdV (X : List PI) : List PI × Int := if (X.any fun x => x.all) = true then ([], 11) else (X, 0)
def crdC (f g : RF) (j : List (List RI)) (z : List RI) (v : List (List RD)) (p : Int) : List PI × Int :=
  if crdE f g j z p ≠ 0 then ([], crdE f g j z p) else if (corC g.ms v p).2 ≠ 0 then ([], (corC g.ms v p).2) else crdV (crdX f g j z (atX (corC g.ms v p).1) p.toNat)
theorem corC_tab {a v : List (List RD)} {p : Int} (h : (corC a v p).2 = 0) : ∃ F, (corC a v p).1 = tabM a.length a.length F := by
  unfold corC at h ⊢
  split
  · next hb =>
    rw [if_pos hb] at h
    cases hd : corD a v p.toNat with
    | some d => exact ⟨_, rfl⟩
    | none => rw [hd] at h; cases h
  next hb => rw [if_neg hb] at h; cases h
theorem applyC_sq {Z : List (List RI)} {x : List RI} {n q : Nat} (vZ : vlM Z = true) (l1 : Z.length = n) (l2 : colsM Z = n) (hx : ∀ y ∈ x, y.vl = true) (l3 : x.length = n) (h0 : 8 ≤ q) (h1 : q ≤ 512) :
    applyC Z x (q : Int) = (rowF n fun i => dotF q (atP Z i) (rowG x) (n - 1), 0) := by
  unfold applyC
  rw [if_neg (by rw [vZ]; decide), if_neg (by
    rw [Bool.not_eq_true, List.any_eq_false]
    intro y hy
    rw [hx y hy]; decide), if_neg (by rw [show preB (q : Int) = true from preB_iff.2 ⟨by omega, by omega⟩]; decide), if_neg (by omega), l1, l2]
  rfl
theorem rowG_row {r : List RI} {n : Nat} {F : Nat → PI} (h : plR r = rowF n F) {i : Nat} (hi : i < n) : rowG r i = F i := by
  have hl : r.length = n := by have := congrArg List.length h; simpa [plR, rowF] using this
  obtain ⟨x, hx⟩ : ∃ x, r[i]? = some x := ⟨_, List.getElem?_eq_getElem (by omega)⟩
  have h1 := congrArg (fun l => l[i]?) h
  unfold plR rowF at h1
  simp only [List.getElem?_map, hx, List.getElem?_range hi, Option.map_some, Option.some.injEq] at h1
  rw [rowG_eq hx, h1]
end Go.Proofs.YtbhmhfnfceakoaaGreatDoor
