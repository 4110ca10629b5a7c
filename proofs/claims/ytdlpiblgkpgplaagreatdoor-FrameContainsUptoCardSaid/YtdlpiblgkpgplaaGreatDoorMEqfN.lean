/-
  Walks: slices.EqualFunc at []api.Dyadic, []api.Interval.
  Walks: the law's inside.
  Walks: the law's exact.
  Walks: the closures of the law MatrixContains.
  Memory and plain facts for the law MatrixContains.
-/
import Derived.Test.YtdlpiblgkpgplaaGreatDoorMIvF
import Derived.Test.YtdlpiblgkpgplaaGreatDoorMCmpD
import Derived.Deep.DeepFit
import Derived.Test.YtdlpiblgkpgplaaGreatDoorMKnuE
import Derived.Test.YtdlpiblgkpgplaaGreatDoorMApM
import Derived.Test.YtdlpiblgkpgplaaGreatDoorMIdxT
import Derived.Deep.LoopGhost
import Derived.Deep.CutRange
import Derived.Test.YtdlpiblgkpgplaaGreatDoorMOwnX
import Derived.Test.YtdlpiblgkpgplaaGreatDoorMSumH
import Derived.Test.YtdlpiblgkpgplaaGreatDoorMRoSq
import Derived.Test.YtdlpiblgkpgplaaGreatDoorMExaN
import Derived.Deep.RegionHeld3
import Derived.Test.YtdlpiblgkpgplaaGreatDoorMIvS
section
namespace Go.Proofs.YtdlpiblgkpgplaaGreatDoor
open Go.RowKit

end Go.Proofs.YtdlpiblgkpgplaaGreatDoor
end

section
namespace Go.Proofs.YtdlpiblgkpgplaaGreatDoor
open Go.RowKit

end Go.Proofs.YtdlpiblgkpgplaaGreatDoor
end

section
namespace Go.Proofs.YtdlpiblgkpgplaaGreatDoor
open Go.RowKit

end Go.Proofs.YtdlpiblgkpgplaaGreatDoor
end

section
namespace Go.Proofs.YtdlpiblgkpgplaaGreatDoor
open Go.RowKit

end Go.Proofs.YtdlpiblgkpgplaaGreatDoor
end

section
namespace Go.Proofs.YtdlpiblgkpgplaaGreatDoor
open Go.RowKit

/-- below the own blocks: nothing but the box of the draws and the box of the greatest number is written -/
def Bas (w : World) (S bb ob : Nat) (aY : Option Addr) (Y : List RI) (y : RD) (wb : World) : Prop := (Kp w wb ∧ wb.heap.size = S) ∧ (∃ n, wb.cell? ⟨bb, 0, none⟩ = some (.int .u64 n)) ∧ wb.frozen? ⟨bb, 0, none⟩ = false ∧ BoxD wb ob y ∧ RowI wb aY Y
/-- a row of intervals behind a store to a cell that holds a uint64 -/
theorem RowI.setu {w : World} {a : Option Addr} {r : List RI} (h : RowI w a r) {p : Addr} {n : Int} (hc : w.cell? p = some (.int .u64 n)) (v : Value) : RowI (w.setCell p v) a r := by
  intro j x hj
  obtain ⟨b, o, e, hr, h0, h1, h2, h3, h4, h5, h6⟩ := h j x hj
  have key (q : Addr) (u : Value) (hq : w.cell? q = some u) (hu : ∀ n, u ≠ .int .u64 n) : (w.setCell p v).cell? q = some u := by
    rw [World.cell?_setCell_other _ _ _ _ (fun e => by subst e; rw [hc] at hq; cases hq; exact hu n rfl)]; exact hq
  exact ⟨b, o, e, RI.rd.set hr hc (fun _ h => by cases h) v, key _ _ h0 (fun _ h => by cases h), key _ _ h1 (fun _ h => by cases h), key _ _ h2 (fun _ h => by cases h), key _ _ h3 (fun _ h => by cases h), key _ _ h4 (fun _ h => by cases h), key _ _ h5 (fun _ h => by cases h), key _ _ h6 (fun _ h => by cases h)⟩
theorem Bas.next {w : World} {S bb ob : Nat} {aY : Option Addr} {Y : List RI} {y : RD} {wb : World} (h : Bas w S bb ob aY Y y wb) (hw : w.heap.size ≤ bb) (hne : bb ≠ ob) (n : Int) : Bas w S bb ob aY Y y (wb.setCell ⟨bb, 0, none⟩ (.int .u64 n)) := by
  obtain ⟨⟨h1, h2⟩, ⟨m, h3⟩, h4, h5, h6⟩ := h
  have d (k : Nat) : (⟨bb, 0, none⟩ : Addr) ≠ ⟨ob, k, none⟩ := fun e => hne (by injection e)
  obtain ⟨a0, a1, a2, f0, f1, f2⟩ := h5
  refine ⟨⟨h1.set hw _, by simpa using h2⟩, ⟨n, cell_set_eq h3⟩, by rw [World.frozen?_setCell]; exact h4, ⟨?_, ?_, ?_, ?_, ?_, ?_⟩, h6.setu h3 _⟩
  · rw [cell_set_ne (d _)]; exact a0
  · rw [cell_set_ne (d _)]; exact a1
  · rw [cell_set_ne (d _)]; exact a2
  · rw [World.frozen?_setCell]; exact f0
  · rw [World.frozen?_setCell]; exact f1
  · rw [World.frozen?_setCell]; exact f2
/-- a number is stored into the second box -/
def put3 (w : World) (g : Nat) (y : RD) : World := ((w.setCell ⟨g, 0, none⟩ (.bool y.neg)).setCell ⟨g, 1, none⟩ (.slice y.a y.xs.length y.c)).setCell ⟨g, 2, none⟩ (.int .i64 y.e)
theorem RowI.most {ob : Nat} {y z : RD} {w : World} {a : Option Addr} {r : List RI} (h : RowI w a r) (hB : BoxD w ob y) (hY : ∀ p, a = some p → p.block ≠ ob) : RowI (put3 w ob z) a r := by
  obtain ⟨h0, h1, h2, _⟩ := hB
  have b0 := h.store h0 (fun _ h => by cases h) hY (.bool z.neg)
  have b1 := b0.store (set_at (v := .bool z.neg) (by decide) h1) (fun _ h => by cases h) hY (.slice z.a z.xs.length z.c)
  exact b1.store (set_at (v := .slice z.a z.xs.length z.c) (by decide) (set_at (v := .bool z.neg) (by decide) h2)) (fun _ h => by cases h) hY (.int .i64 z.e)
theorem Bas.most {w : World} {S bb ob : Nat} {aY : Option Addr} {Y : List RI} {y : RD} {wb : World} (h : Bas w S bb ob aY Y y wb) (hw : w.heap.size ≤ ob) (hne : bb ≠ ob) (hY : ∀ p, aY = some p → p.block ≠ ob) (z : RD) : Bas w S bb ob aY Y z (put3 wb ob z) := by
  obtain ⟨⟨h1, h2⟩, ⟨m, h3⟩, h4, h5, h6⟩ := h
  obtain ⟨hN, hU⟩ := BoxD.store h5 z rfl
  refine ⟨⟨hU.2.2.1 _ h1 hw, by rw [← h2]; exact hU.2.2.2.2⟩, ⟨m, by rw [← h3]; exact hU.2.2.2.1 ⟨bb, 0, none⟩ hne⟩, (hU.1 _).trans h4, hN, h6.most h5 hY⟩
theorem OwnE.most {ob : Nat} {y z : RD} {wb w : World} {v : Value} {zs : List RD} (h : OwnE wb w v zs) (hb : ob < wb.heap.size) (hB : BoxD w ob y) : OwnE (put3 wb ob z) (put3 w ob z) v zs := by
  obtain ⟨h0, h1, h2, _⟩ := hB
  have a := h.set hb h0 (fun _ h => by cases h) (.bool z.neg)
  have b := a.set (by simpa using hb) (set_at (v := .bool z.neg) (by decide) h1) (fun _ h => by cases h) (.slice z.a z.xs.length z.c)
  exact b.set (by simpa using hb) (set_at (v := .slice z.a z.xs.length z.c) (by decide) (set_at (v := .bool z.neg) (by decide) h2)) (fun _ h => by cases h) (.int .i64 z.e)
theorem RowNs.most {S ob : Nat} {y z : RD} {w : World} {a : Option Addr} {m : List (List RD)} (h : RowNs S w a m) (hb : ob < S) (hB : BoxD w ob y) : RowNs S (put3 w ob z) a m := by
  obtain ⟨h0, h1, h2, _⟩ := hB
  have a := h.set hb h0 (fun _ h => by cases h) (.bool z.neg)
  have b := a.set hb (set_at (v := .bool z.neg) (by decide) h1) (fun _ h => by cases h) (.slice z.a z.xs.length z.c)
  exact b.set hb (set_at (v := .slice z.a z.xs.length z.c) (by decide) (set_at (v := .bool z.neg) (by decide) h2)) (fun _ h => by cases h) (.int .i64 z.e)
/-- the first numbers are ends -/
def endsP (r : List RI) (l : List RD) : Prop := ∀ (j : Nat) (x : RI) (d : RD), r[j]? = some x → l[j]? = some d → endR x d
def endsQ (m : List (List RI)) (L : List (List RD)) : Prop := ∀ (i : Nat) (r : List RI) (l : List RD), m[i]? = some r → L[i]? = some l → endsR r l
theorem snoc_at {α : Type} {W : List α} {s y : α} {i : Nat} (h : (W ++ [s])[i]? = some y) : W[i]? = some y ∨ i = W.length ∧ y = s := by
  by_cases hi : i < W.length
  · rw [List.getElem?_append_left hi] at h; exact .inl h
  · rw [List.getElem?_append_right (by omega)] at h
    have hie : i = W.length := by
      have := (List.getElem?_eq_some_iff.1 h).1
      simp at this; omega
    subst hie
    simp at h
    exact .inr ⟨rfl, h.symm⟩
theorem endsP.snoc {r : List RI} {l : List RD} (h : endsP r l) {x : RI} {d : RD} (hx : r[l.length]? = some x) (hd : endR x d) : endsP r (l ++ [d]) := by
  intro j y q hj hq
  rcases snoc_at hq with hq | ⟨rfl, rfl⟩
  · exact h j y q hj hq
  · rw [hx] at hj; cases hj; exact hd
theorem endsQ.snoc {m : List (List RI)} {L : List (List RD)} (h : endsQ m L) {r : List RI} {l : List RD} (hr : m[L.length]? = some r) (hl : endsP r l) (hn : l.length = r.length) : endsQ m (L ++ [l]) := by
  intro j y q hj hq
  rcases snoc_at hq with hq | ⟨rfl, rfl⟩
  · exact h j y q hj hq
  · rw [hr] at hj; cases hj; exact ⟨hn, hl⟩
/-- all numbers are bounded -/
def bndD (z : List RD) (M : Int) : Prop := 0 ≤ M ∧ ∀ y ∈ z, (y.iv.natAbs : Int) ≤ M
theorem bndD.same {z : List RD} {M : Int} {d : RD} (h : bndD z M) (hd : ¬ M < (d.iv.natAbs : Int)) : bndD (z ++ [d]) M := ⟨h.1, fun y hy => by
  rcases List.mem_append.1 hy with h1 | h1
  · exact h.2 y h1
  · simp only [List.mem_singleton] at h1; subst h1; omega⟩
theorem bndD.more {z : List RD} {M : Int} {d : RD} (h : bndD z M) (hd : M < (d.iv.natAbs : Int)) : bndD (z ++ [d]) (d.iv.natAbs : Int) := ⟨by omega, fun y hy => by
  rcases List.mem_append.1 hy with h1 | h1
  · have := h.2 y h1; omega
  · simp only [List.mem_singleton] at h1; subst h1; exact Int.le_refl _⟩
end Go.Proofs.YtdlpiblgkpgplaaGreatDoor
end
