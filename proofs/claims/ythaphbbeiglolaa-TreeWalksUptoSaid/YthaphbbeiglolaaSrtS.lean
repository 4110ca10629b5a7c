/-
  The library's sort and Compact at the call's own slice of texts.
-/
import Derived.Test.YthaphbbeiglolaaSrtP
import Derived.Test.YthaphbbeiglolaaShlS
import Derived.Test.YthaphbbeiglolaaRenX
import Derived.Sort.OwnSorted
import Derived.Lib.OwnBridge
import Derived.Lib.RowBridge
namespace Go.Proofs.Ythaphbbeiglolaa
open Go.RowKit Go.Shelf Go.Sort

/-- the call's own slice of texts -/
def OwnS (w : World) (base : Nat) (v : Value) (ss : List (List UInt8)) : Prop := w.ownsRow base 9 1 v ss.length (ss.map encStr)
theorem leB_fun : (fun x y : List UInt8 => decide (x ≤ y)) = leB := rfl
theorem sortS_any (base : Nat) (v : Value) (ss : List (List UInt8)) (w : World) (h : OwnS w base v ss) (hl : ss.length ≤ 1100000) :
    Calls Try.prog 47 #[v] w fun e w' => e = .returned (.tuple #[]) ∧ w.grownBy w' v.ownBlock ∧ OwnS w' base v (ss.mergeSort leB) := by
  by_cases hv : v = .slice none 0 0
  · subst hv
    have h0 : ss = [] := by
      rcases h.2 with ⟨_, h0⟩ | ⟨g, cap, cur, e, _⟩
      · exact List.length_eq_zero_iff.1 h0
      · cases e
    subst h0
    refine (Any.slices_Sort_string_none lays190 none 0 w).mono fun e w' hh => ?_
    obtain ⟨e1, e2⟩ := hh
    subst e2
    exact ⟨e1, ⟨rfl, rfl, rfl, Nat.le_refl _, fun _ _ _ => rfl⟩, by rw [List.mergeSort_nil]; exact h⟩
  · rcases h.2 with ⟨e, _⟩ | ⟨g, cap, cur, rfl, hb, hg, hn, hc, hs, ht⟩
    · exact absurd e hv
    rw [Nat.mul_one] at ht
    have hH : Holds encStr w g 0 ss.toArray := holds_of_block hg ht
    refine (Any.slices_Sort_string lays190 g 0 cap ss w hH (Array.getElem?_eq_some_iff.1 hg).1 (by omega)).mono fun e w' hh => ?_
    obtain ⟨e1, n, os, e2⟩ := hh
    subst e2
    refine ⟨e1, grownBy_sorted _, ?_⟩
    have hlen : (ss.mergeSort leB).length = ss.length := (sortB_perm ss).length_eq
    unfold OwnS
    rw [hlen]
    exact ownsRow_sorted hlen hb hg hn hc hs
theorem compS_any (base : Nat) (v : Value) (ss : List (List UInt8)) (w : World) (h : OwnS w base v ss) (hl : ss.length ≤ 1100000) :
    Calls Try.prog 48 #[v] w fun e w' => ∃ v', e = .returned v' ∧ w.grownBy w' v.ownBlock ∧ OwnS w' base v' (Lib.compact ss) := by
  by_cases hv : v = .slice none 0 0
  · subst hv
    have h0 : ss = [] := by
      rcases h.2 with ⟨_, h0⟩ | ⟨g, cap, cur, e, _⟩
      · exact List.length_eq_zero_iff.1 h0
      · cases e
    subst h0
    refine (Any.slices_Compact_string_empty lays194 none 0 w).mono fun e w' hh => ?_
    obtain ⟨e1, e2⟩ := hh
    subst e2
    exact ⟨_, e1, ⟨rfl, rfl, rfl, Nat.le_refl _, fun _ _ _ => rfl⟩, h⟩
  · obtain ⟨g, cap, rfl, hb, hlt, hn, hc, _, hH⟩ := Lib.holds_of_ownsRow h hv
    refine (Any.slices_Compact_string lays194 g 0 cap ss w hH (by omega) hn).mono fun e w' hh => ?_
    obtain ⟨e1, q, e2⟩ := hh
    subst e2
    have hle := Lib.compact_length_le ss
    refine ⟨_, e1, ?_, ?_⟩
    · have := grownBy_sorted (w := w) (g := g) (n := q) (os := #[]) (Lib.compact ss ++ List.replicate (ss.length - (Lib.compact ss).length) []).toArray
      show w.grownBy _ (some g)
      simpa using this
    · have := Lib.ownsRow_putRow (q := q) (k := (Lib.compact ss).length) (ys := Lib.compact ss ++ List.replicate (ss.length - (Lib.compact ss).length) []) h (by simp; omega) hle
      rw [List.take_left] at this
      exact this
end Go.Proofs.Ythaphbbeiglolaa
