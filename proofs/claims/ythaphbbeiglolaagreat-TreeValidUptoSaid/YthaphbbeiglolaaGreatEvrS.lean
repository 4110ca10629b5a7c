/-
  Walks: slices.IndexFunc, ContainsFunc at []string; tree.every at strings; the law's names.
-/
import Derived.Test.YthaphbbeiglolaaGreatEquV
namespace Go.Proofs.YthaphbbeiglolaaGreat
open Go.RowKit Go.Sort

/-- a slice of texts lies there -/
def RowS (w : World) (a : Option Addr) (ss : List ByteArray) : Prop := ∀ (i : Nat) (s : ByteArray), ss[i]? = some s → ∃ b o, a = some ⟨b, o, none⟩ ∧ w.cell? ⟨b, o + i, none⟩ = some (.string s)
theorem RowS.kp {w w' : World} {a : Option Addr} {ss : List ByteArray} (h : RowS w a ss) (k : Kp w w') : RowS w' a ss := fun i s hs => by
  obtain ⟨b, o, e, hc⟩ := h i s hs
  exact ⟨b, o, e, k.cell hc⟩
/-- the function answers p at each text, in whatever later world, and keeps all that was there -/
def AnsS (P : Program) (g : FuncId) (cap : Array Value) (w : World) (ss : List ByteArray) (p : ByteArray → Bool) : Prop :=
  Enters P g ∧ ∀ s, s ∈ ss → ∀ w1, Kp w w1 → Calls P g (#[.string s] ++ cap) w1 fun e w2 => e = .returned (.bool (p s)) ∧ Kp w1 w2
end Go.Proofs.YthaphbbeiglolaaGreat
