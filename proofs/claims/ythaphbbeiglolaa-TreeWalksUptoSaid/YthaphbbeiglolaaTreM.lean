/-
  Trees in memory.
-/
import Derived.Test.YthaphbbeiglolaaTreS
import Derived.Test.YthaphbbeiglolaaBase
namespace Go.Proofs.Ythaphbbeiglolaa
open Go.RowKit

theorem setcell_ne {w : World} {g i : Nat} {p : Addr} {v : Value} (h : (⟨g, i, none⟩ : Addr) ≠ p) : (w.setCell ⟨g, i, none⟩ v).cell? p = w.cell? p := by
  rw [World.cell?_setCell_other]; exact h
theorem below_bothT {B : Nat} {a w : World} (h : Below B a w) (p : Addr) (v : Value) : Below B (a.setCell p v) (w.setCell p v) := by
  have h1 := Below.setCell (Below.refl 0 a) (p := p) (Nat.zero_le _) v
  have h2 := Below.setCell (Below.refl 0 w) (p := p) (Nat.zero_le _) v
  refine ⟨h2.os.trans (h.os.trans h1.os.symm), h2.tape.trans (h.tape.trans h1.tape.symm), h2.output.trans (h.output.trans h1.output.symm), by simpa using h.size, fun k hk => ?_⟩
  by_cases e : k = p.block
  · subst e
    have hb := h.block p.block hk
    unfold World.setCell
    simp only [Array.getElem?_modify, hb]
  · rw [Below.heap_setCell w p v k e, Below.heap_setCell a p v k e]; exact h.block k hk
theorem kp_bothT {a w : World} (h : Kp a w) (p : Addr) (v : Value) : Kp (a.setCell p v) (w.setCell p v) := by
  have := below_bothT h p v
  unfold Kp
  simpa using this
mutual
/-- the elements lie where the slice says, in blocks below B, all the way down -/
def Ex.at (w : World) (B : Nat) : Ex → Prop
  | .mk _ _ _ s _ a c l => (l.length ≤ c ∧ c ≤ maxLen ∧ s.size ≤ maxLen ∧ l.length ≤ 1048576) ∧ (∀ (i : Nat) (x : Ex), l[i]? = some x → ∃ b o, a = some ⟨b, o, none⟩ ∧ b < B ∧ w.cell? ⟨b, o + i * 6, none⟩ = some (.int .i64 x.kind) ∧ w.cell? ⟨b, o + i * 6 + 1, none⟩ = some (.int .i64 x.rn) ∧ w.cell? ⟨b, o + i * 6 + 2, none⟩ = some (.int .i64 x.rd) ∧ w.cell? ⟨b, o + i * 6 + 3, none⟩ = some (.string x.name) ∧ w.cell? ⟨b, o + i * 6 + 4, none⟩ = some (.int .i64 x.pw) ∧ w.cell? ⟨b, o + i * 6 + 5, none⟩ = some (.slice x.a x.l.length x.c)) ∧ Ex.atL w B l
def Ex.atL (w : World) (B : Nat) : List Ex → Prop
  | [] => True
  | x :: t => x.at w B ∧ Ex.atL w B t
end
theorem Ex.atL_iff {w : World} {B : Nat} {l : List Ex} : Ex.atL w B l ↔ ∀ x ∈ l, x.at w B := by
  induction l with
  | nil => rw [Ex.atL]; simp
  | cons x t ih =>
    rw [Ex.atL, ih]
    constructor
    · rintro ⟨h1, h2⟩ y hy
      rcases List.mem_cons.1 hy with rfl | hy
      · exact h1
      · exact h2 y hy
    · exact fun h => ⟨h x (.head _), fun y hy => h y (.tail _ hy)⟩
/-- a slice of trees lies there -/
def RowX (w : World) (B : Nat) (a : Option Addr) (l : List Ex) : Prop := ∀ (i : Nat) (x : Ex), l[i]? = some x → ∃ b o, a = some ⟨b, o, none⟩ ∧ b < B ∧ w.cell? ⟨b, o + i * 6, none⟩ = some (.int .i64 x.kind) ∧ w.cell? ⟨b, o + i * 6 + 1, none⟩ = some (.int .i64 x.rn) ∧ w.cell? ⟨b, o + i * 6 + 2, none⟩ = some (.int .i64 x.rd) ∧ w.cell? ⟨b, o + i * 6 + 3, none⟩ = some (.string x.name) ∧ w.cell? ⟨b, o + i * 6 + 4, none⟩ = some (.int .i64 x.pw) ∧ w.cell? ⟨b, o + i * 6 + 5, none⟩ = some (.slice x.a x.l.length x.c)
theorem Ex.at_iff {w : World} {B : Nat} {e : Ex} : e.at w B ↔ (e.l.length ≤ e.c ∧ e.c ≤ maxLen ∧ e.name.size ≤ maxLen ∧ e.l.length ≤ 1048576) ∧ RowX w B e.a e.l ∧ ∀ x ∈ e.l, x.at w B := by
  cases e
  rw [Ex.at, Ex.atL_iff]
  exact Iff.rfl
theorem RowX.same {w w' : World} {B B' : Nat} {a : Option Addr} {l : List Ex} (h : RowX w B a l) (hB : B ≤ B') (hc : ∀ b i v, b < B → w.cell? ⟨b, i, none⟩ = some v → w'.cell? ⟨b, i, none⟩ = some v) : RowX w' B' a l := by
  intro i x hx
  obtain ⟨b, o, e, hb, h0, h1, h2, h3, h4, h5⟩ := h i x hx
  exact ⟨b, o, e, by omega, hc _ _ _ hb h0, hc _ _ _ hb h1, hc _ _ _ hb h2, hc _ _ _ hb h3, hc _ _ _ hb h4, hc _ _ _ hb h5⟩
theorem Ex.same {w w' : World} {B B' : Nat} (hB : B ≤ B') (hc : ∀ b i v, b < B → w.cell? ⟨b, i, none⟩ = some v → w'.cell? ⟨b, i, none⟩ = some v) : ∀ e : Ex, e.at w B → e.at w' B' := by
  refine Ex.ind fun e ih h => ?_
  obtain ⟨h1, h2, h3⟩ := Ex.at_iff.1 h
  exact Ex.at_iff.2 ⟨h1, h2.same hB hc, fun x hx => ih x hx (h3 x hx)⟩
theorem Ex.at_kp {w w' : World} {B : Nat} {e : Ex} (h : e.at w B) (k : Kp w w') : e.at w' B := Ex.same (Nat.le_refl _) (fun _ _ _ _ hc => k.cell hc) e h
theorem RowX.kp {w w' : World} {B : Nat} {a : Option Addr} {l : List Ex} (h : RowX w B a l) (k : Kp w w') : RowX w' B a l := h.same (Nat.le_refl _) fun _ _ _ _ hc => k.cell hc
theorem Ex.at_set {w : World} {B g i : Nat} {e : Ex} (h : e.at w B) (hg : B ≤ g) (v : Value) : e.at (w.setCell ⟨g, i, none⟩ v) B :=
  Ex.same (Nat.le_refl _) (fun b j u hb hc => by rw [setcell_ne (fun e => by injection e with e1; omega)]; exact hc) e h
theorem RowX.set {w : World} {B g i : Nat} {a : Option Addr} {l : List Ex} (h : RowX w B a l) (hg : B ≤ g) (v : Value) : RowX (w.setCell ⟨g, i, none⟩ v) B a l :=
  h.same (Nat.le_refl _) fun b j u hb hc => by rw [setcell_ne (fun e => by injection e with e1; omega)]; exact hc
theorem keepE6 {w w' : World} (k : Kp w w') {p0 p1 p2 p3 p4 p5 : Addr} {v0 v1 v2 v3 v4 v5 : Value} (h : w.cell? p0 = some v0 ∧ w.cell? p1 = some v1 ∧ w.cell? p2 = some v2 ∧ w.cell? p3 = some v3 ∧ w.cell? p4 = some v4 ∧ w.cell? p5 = some v5) :
    w'.cell? p0 = some v0 ∧ w'.cell? p1 = some v1 ∧ w'.cell? p2 = some v2 ∧ w'.cell? p3 = some v3 ∧ w'.cell? p4 = some v4 ∧ w'.cell? p5 = some v5 := ⟨k.cell h.1, k.cell h.2.1, k.cell h.2.2.1, k.cell h.2.2.2.1, k.cell h.2.2.2.2.1, k.cell h.2.2.2.2.2⟩
end Go.Proofs.Ythaphbbeiglolaa
