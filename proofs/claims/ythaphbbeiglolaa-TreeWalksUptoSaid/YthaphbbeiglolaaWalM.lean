/-
  What the rounds of a range over tree.Walk may write, and what they leave.
-/
import Derived.Test.YthaphbbeiglolaaEvrN
import Derived.RangeFuncNested
import Derived.RangeFuncBound
import Derived.RangeFuncCalls
import Derived.RangeFuncLeaves
import Derived.Shelf.Abstract
import Derived.Shelf.RegionOpen
import Derived.OwnWalkIn
import Derived.TacticsInMore
import Derived.LoopNIn
import Derived.LoopIn
namespace Go.Proofs.Ythaphbbeiglolaa
open Go.RowKit Go.Sort Go.Shelf

def CellsAt (W : World) (k : Nat) : Prop := ∃ vs t fr, W.heap[k]? = some (.cells vs t fr)
theorem cellsAt_of {W : World} {b i : Nat} {v : Value} (h : W.cell? ⟨b, i, none⟩ = some v) : CellsAt W b := by
  unfold World.cell? at h
  cases hb : W.heap[b]? with
  | none => simp [hb] at h
  | some o =>
    cases o with
    | cells vs t fr => exact ⟨vs, t, fr, hb⟩
    | _ => simp [hb] at h
/-- all that are cells stay -/
def CellKp (W W' : World) : Prop := W.heap.size ≤ W'.heap.size ∧ ∀ k, CellsAt W k → W'.heap[k]? = W.heap[k]?
/-- what the caller's rounds may write: the blocks X; G: the caller's own state is whole -/
structure Turf where
  X : World → Nat → Prop
  G : World → Prop
  lt : ∀ W k, G W → X W k → k < W.heap.size
  kp' : ∀ W W', G W → CellKp W W' → G W' ∧ ∀ k, X W' k → X W k
theorem CellsAt.lt {W : World} {k : Nat} (h : CellsAt W k) : k < W.heap.size := by
  obtain ⟨_, _, _, h⟩ := h
  exact (Array.getElem?_eq_some_iff.1 h).1
theorem Kp.cells {W W' : World} (k : Kp W W') : CellKp W W' := ⟨k.size, fun j hj => k.block j hj.lt⟩
theorem Turf.kp (T : Turf) (W W' : World) (h : T.G W) (k : Kp W W') : T.G W' ∧ ∀ j, T.X W' j → T.X W j := T.kp' W W' h k.cells
/-- the blocks M are cells that the caller's rounds do not write -/
structure Safe (T : Turf) (M : Nat → Prop) (W : World) : Prop where
  g : T.G W
  cells : ∀ k, M k → CellsAt W k
  off : ∀ k, M k → ¬ T.X W k
/-- they are as they were, and still safe -/
def Grown (T : Turf) (M : Nat → Prop) (W W' : World) : Prop := Safe T M W' ∧ ∀ k, M k → W'.heap[k]? = W.heap[k]?
/-- what a round that goes on keeps -/
def KpT (T : Turf) (W W' : World) : Prop := ∀ M, Safe T M W → Grown T M W W'
theorem Grown.refl {T : Turf} {M : Nat → Prop} {W : World} (h : Safe T M W) : Grown T M W W := ⟨h, fun _ _ => rfl⟩
theorem Grown.trans {T : Turf} {M : Nat → Prop} {A B C : World} (h : Grown T M A B) (k : Grown T M B C) : Grown T M A C := ⟨k.1, fun j hj => (k.2 j hj).trans (h.2 j hj)⟩
theorem Safe.mono {T : Turf} {M M' : Nat → Prop} {W : World} (h : Safe T M' W) (hm : ∀ k, M k → M' k) : Safe T M W := ⟨h.g, fun k hk => h.cells k (hm k hk), fun k hk => h.off k (hm k hk)⟩
theorem Grown.mono {T : Turf} {M M' : Nat → Prop} {W W' : World} (h : Grown T M' W W') (hm : ∀ k, M k → M' k) : Grown T M W W' := ⟨h.1.mono hm, fun k hk => h.2 k (hm k hk)⟩
theorem KpT.trans {T : Turf} {A B C : World} (h : KpT T A B) (k : KpT T B C) : KpT T A C := fun M hM => (h M hM).trans (k M (h M hM).1)
theorem CellsAt.same {W W' : World} {k : Nat} (h : CellsAt W k) (e : W'.heap[k]? = W.heap[k]?) : CellsAt W' k := by
  obtain ⟨a, b, c, h⟩ := h
  exact ⟨a, b, c, e.trans h⟩
theorem Safe.kp {T : Turf} {M : Nat → Prop} {W W' : World} (h : Safe T M W) (k : Kp W W') : Grown T M W W' := by
  have e : ∀ j, M j → W'.heap[j]? = W.heap[j]? := fun j hj => k.block j (h.cells j hj).lt
  exact ⟨⟨(T.kp W W' h.g k).1, fun j hj => (h.cells j hj).same (e j hj), fun j hj hx => h.off j hj ((T.kp W W' h.g k).2 j hx)⟩, e⟩
theorem Safe.cellKp {T : Turf} {M : Nat → Prop} {W W' : World} (h : Safe T M W) (k : CellKp W W') : Grown T M W W' := by
  have e : ∀ j, M j → W'.heap[j]? = W.heap[j]? := fun j hj => k.2 j (h.cells j hj)
  exact ⟨⟨(T.kp' W W' h.g k).1, fun j hj => (h.cells j hj).same (e j hj), fun j hj hx => h.off j hj ((T.kp' W W' h.g k).2 j hx)⟩, e⟩
theorem kpT_put {T : Turf} (W : World) (l : Nat) (o o' : Obj) (hl : W.heap[l]? = some o) (ho : o.isCells = false) : KpT T W (W.putObj l o') := fun _ h =>
  h.cellKp ⟨by simp, fun k hk => World.putObj_heap_other (fun e => by
    subst e
    obtain ⟨vs, t, fr, hc⟩ := hk
    rw [hl] at hc
    cases hc
    cases ho)⟩
/-- one box that the rounds write -/
def tBox (b : Nat) : Turf where
  X := fun _ k => k = b
  G := fun W => b < W.heap.size
  lt := fun W k h e => by subst e; exact h
  kp' := fun W W' h k => ⟨Nat.lt_of_lt_of_le h k.1, fun _ h => h⟩
/-- the rounds write what their turf allows, and new blocks -/
theorem kpT_of {T : Turf} {W W' : World} (_hs : W.heap.size ≤ W'.heap.size) (hc : ∀ k, CellsAt W k → ¬ T.X W k → W'.heap[k]? = W.heap[k]?) (hG : T.G W → T.G W') (hX : T.G W → ∀ k, T.X W' k → T.X W k ∨ W.heap.size ≤ k) : KpT T W W' := fun M h => by
  have e : ∀ j, M j → W'.heap[j]? = W.heap[j]? := fun j hj => hc j (h.cells j hj) (h.off j hj)
  refine ⟨⟨hG h.g, fun j hj => (h.cells j hj).same (e j hj), fun j hj hx => ?_⟩, e⟩
  rcases hX h.g j hx with h1 | h1
  · exact h.off j hj h1
  · have := (h.cells j hj).lt; omega
theorem Kp.kpT {T : Turf} {W W' : World} (k : Kp W W') : KpT T W W' := fun _ h => h.kp k
/-- new blocks of cells are safe, too -/
theorem Safe.add {T : Turf} {M : Nat → Prop} {W W' : World} (h : Safe T M W) (k : Kp W W') (N : Nat → Prop) (hN : ∀ j, N j → W.heap.size ≤ j ∧ CellsAt W' j) : Safe T (fun j => M j ∨ N j) W' := by
  have h1 := (h.kp k).1
  refine ⟨h1.g, fun j hj => hj.elim (h1.cells j) fun hn => (hN j hn).2, fun j hj => hj.elim (h1.off j) fun hn hx => ?_⟩
  have := T.lt W j h.g ((T.kp W W' h.g k).2 j hx)
  have := (hN j hn).1
  omega
mutual
/-- the elements lie in blocks of M -/
def Ex.inM (M : Nat → Prop) : Ex → Prop | .mk _ _ _ _ _ a _ l => (l = [] ∨ ∃ b, a = some ⟨b, 0, none⟩ ∧ M b) ∧ Ex.inML M l
def Ex.inML (M : Nat → Prop) : List Ex → Prop | [] => True | x :: t => x.inM M ∧ Ex.inML M t
end
theorem Ex.inML_iff {M : Nat → Prop} {l : List Ex} : Ex.inML M l ↔ ∀ x ∈ l, x.inM M := by
  induction l with
  | nil => rw [Ex.inML]; simp
  | cons x t ih =>
    rw [Ex.inML, ih]
    exact ⟨fun h y hy => (List.mem_cons.1 hy).elim (fun e => e ▸ h.1) (h.2 y), fun h => ⟨h x (.head _), fun y hy => h y (.tail _ hy)⟩⟩
theorem Ex.inM_iff {M : Nat → Prop} {e : Ex} : e.inM M ↔ (e.l = [] ∨ ∃ b, e.a = some ⟨b, 0, none⟩ ∧ M b) ∧ ∀ x ∈ e.l, x.inM M := by
  cases e; rw [Ex.inM, Ex.inML_iff]; exact Iff.rfl
theorem Ex.inM_mono {M M' : Nat → Prop} (hm : ∀ k, M k → M' k) : ∀ e : Ex, e.inM M → e.inM M' := by
  refine Ex.ind fun e ih h => ?_
  obtain ⟨h1, h2⟩ := Ex.inM_iff.1 h
  exact Ex.inM_iff.2 ⟨h1.imp id fun ⟨b, e1, hb⟩ => ⟨b, e1, hm b hb⟩, fun x hx => ih x hx (h2 x hx)⟩
theorem cell_same {W W' : World} {b : Nat} (h : W'.heap[b]? = W.heap[b]?) (i : Nat) : W'.cell? ⟨b, i, none⟩ = W.cell? ⟨b, i, none⟩ := by
  unfold World.cell?
  simp only [h]
theorem rowX_same {W W' : World} {B : Nat} {l : List Ex} {a : Option Addr} (h : RowX W B a l) (ha : l = [] ∨ ∃ b, a = some ⟨b, 0, none⟩ ∧ W'.heap[b]? = W.heap[b]?) : RowX W' B a l := by
  intro i x hx
  rcases ha with e | ⟨b, e, hb⟩
  · rw [e] at hx; simp at hx
  · obtain ⟨b', o, e1, h0, c0, c1, c2, c3, c4, c5⟩ := h i x hx
    rw [e] at e1
    cases e1
    exact ⟨b, 0, e, h0, (cell_same hb _).trans c0, (cell_same hb _).trans c1, (cell_same hb _).trans c2, (cell_same hb _).trans c3, (cell_same hb _).trans c4, (cell_same hb _).trans c5⟩
theorem Ex.at_inM {M : Nat → Prop} {W W' : World} {B : Nat} (hs : ∀ k, M k → W'.heap[k]? = W.heap[k]?) : ∀ e : Ex, e.inM M → e.at W B → e.at W' B := by
  refine Ex.ind fun e ih h hat => ?_
  obtain ⟨h1, h2⟩ := Ex.inM_iff.1 h
  obtain ⟨a1, a2, a3⟩ := Ex.at_iff.1 hat
  exact Ex.at_iff.2 ⟨a1, rowX_same a2 (h1.imp id fun ⟨b, e1, hb⟩ => ⟨b, e1, hs b hb⟩), fun x hx => ih x hx (h2 x hx) (a3 x hx)⟩
theorem inM_own {w : World} {B : Nat} : ∀ (e : Ex) (lo hi : Nat), e.own w lo hi → e.at w B → e.inM (fun k => lo ≤ k ∧ CellsAt w k) := by
  refine Ex.ind fun e ih lo hi ho hat => ?_
  obtain ⟨_, ho2⟩ := Ex.own_iff.1 ho
  obtain ⟨a1, a2, a3⟩ := Ex.at_iff.1 hat
  rcases ho2 with he | ⟨b, ha, hb, _, hL⟩
  · exact Ex.inM_iff.2 ⟨.inl he, fun x hx => by rw [he] at hx; cases hx⟩
  · refine Ex.inM_iff.2 ⟨?_, fun x hx => ?_⟩
    · cases hl : e.l with
      | nil => exact .inl rfl
      | cons x t =>
        obtain ⟨b', o, e1, _, c0, _⟩ := a2 0 x (by rw [hl]; rfl)
        rw [ha] at e1
        cases e1
        exact .inr ⟨b, ha, hb, cellsAt_of c0⟩
    · obtain ⟨lo', hi', q1, q2, q3⟩ := ownL_mem hL hx
      exact Ex.inM_mono (fun k hk => ⟨by omega, hk.2⟩) x (ih x hx lo' hi' q3 (a3 x hx))
theorem grown_none {W W' : World} (k : Kp W W') : W.grownBy W' none := ⟨k.os, k.tape, k.output, k.size, fun j hj _ => k.block j hj⟩
theorem abides_kp {β : Type} {B : Nat} {J : β → World → Prop} (h : AbidesFrom B J) {s : β} {W W' : World} (hj : J s W) (k : Kp W W') : J s W' := h s W W' none hj (grown_none k) (fun r e => by cases e)
end Go.Proofs.Ythaphbbeiglolaa
