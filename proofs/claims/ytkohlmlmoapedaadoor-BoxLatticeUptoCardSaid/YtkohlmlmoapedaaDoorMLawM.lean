/-
  Walks: the law BoxLattice, whole.
-/
import Derived.Test.YtkohlmlmoapedaaDoorMLawL0
import Derived.Test.YtkohlmlmoapedaaDoorMLawL1
import Derived.Test.YtkohlmlmoapedaaDoorMLawL2
import Derived.Test.YtkohlmlmoapedaaDoorMLawL3
import Derived.Test.YtkohlmlmoapedaaDoorMLawL4
import Derived.Test.YtkohlmlmoapedaaDoorMLawL5
import Derived.Test.YtkohlmlmoapedaaDoorMLawL6
namespace Go.Proofs.YtkohlmlmoapedaaDoor
open Go.RowKit

theorem BoxLattice_ok (a b d : Option Addr) (zs ys cs : List RI) (ca cb cd : Nat) (w : World) (hz : RowI w a zs) (hzl : zs.length ≤ 1100000) (hy : RowI w b ys) (hyl : ys.length ≤ 1100000) (hc : RowI w d cs) (hcl : cs.length ≤ 1100000) (hT : Tab w) :
    Calls Tryd.prog 3 #[.slice a zs.length ca, .slice b ys.length cb, .slice d cs.length cd] w fun e w' => e = .returned (.bool true) ∧ Kp w w' := by
  cases hg : goL zs ys cs with
  | false => exact Lattice_out a b d zs ys cs ca cb cd w hz hzl hy hyl hc hcl hT hg
  | true =>
    obtain ⟨v1, v2, hl⟩ := goL_true hg
    have oz := OkB.of hz v1
    have oy := OkB.of hy v2
    cases hO : okB zs ys <;> cases hE : insB zs ys <;> cases hF : insB ys zs <;> cases hI : intB zs ys
    · exact Lattice_run6 a b d zs ys cs ca cb cd w hz hzl hy hyl hc hcl hT hg hO hE hF hI
    · exfalso; have h1 := lat10 oz oy hl hI; rw [hE, hF] at h1; simp at h1
    · exact Lattice_run5 a b d zs ys cs ca cb cd w hz hzl hy hyl hc hcl hT hg hO hE hF hI
    · exfalso; have h1 := lat10 oz oy hl hI; rw [hE, hF] at h1; simp at h1
    · exfalso; have h1 := lat8 oz oy hl hE; rw [hO] at h1; cases h1
    · exfalso; have h1 := lat8 oz oy hl hE; rw [hO] at h1; cases h1
    · exfalso; have h1 := lat8 oz oy hl hE; rw [hO] at h1; cases h1
    · exfalso; have h1 := lat10 oz oy hl hI; rw [hE, hF] at h1; simp at h1
    · exact Lattice_run4 a b d zs ys cs ca cb cd w hz hzl hy hyl hc hcl hT hg hO hE hF hI
    · exfalso; have h1 := lat10 oz oy hl hI; rw [hE, hF] at h1; simp at h1
    · exact Lattice_run3 a b d zs ys cs ca cb cd w hz hzl hy hyl hc hcl hT hg hO hE hF hI
    · exfalso; have h1 := lat10 oz oy hl hI; rw [hE, hF] at h1; simp at h1
    · exact Lattice_run2 a b d zs ys cs ca cb cd w hz hzl hy hyl hc hcl hT hg hO hE hF hI
    · exact Lattice_run1 a b d zs ys cs ca cb cd w hz hzl hy hyl hc hcl hT hg hO hE hF hI
    · exact Lattice_run0 a b d zs ys cs ca cb cd w hz hzl hy hyl hc hcl hT hg hO hE hF hI
    · exfalso; have h1 := lat10 oz oy hl hI; rw [hE, hF] at h1; simp at h1
end Go.Proofs.YtkohlmlmoapedaaDoor
