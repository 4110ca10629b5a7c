/-
  Walks: round.sum.
-/
import Derived.Test.YtndbnfeapdkoaaaDoorMLaw3P
namespace Go.Proofs.YtndbnfeapdkoaaaDoor
open Go.RowKit

theorem Top_rok (x : RD) (w : World) (h : x.ok w) :
    Calls Tryd.prog 63 #[.agg #[.bool x.neg, .slice x.a x.xs.length x.c, .int .i64 x.e]] w fun e w' => e = .returned (.int .i64 (topI x.dy)) ∧ Kp w w' := by
  have H := Top_ok x.dy x.a x.c w (rdok_at h)
  rw [rdok_limbs h] at H
  exact H
/-- sum's result: a mantissa M on a unit l, and whether something was lost, and whether the sign is turned -/
def SumOut (w : World) (x y : RD) (p : Nat) (e : Ending) (w' : World) : Prop :=
  ∃ a c M l lost T, e = .returned (.tuple #[.agg #[.slice a (limbs M).length c, .int .i64 l, .bool lost], .bool T]) ∧ (limbs M).length ≤ c ∧ c ≤ maxLen ∧ Rd w' a (limbs M) ∧ (limbs M).length ≤ 256 ∧ -200000 ≤ l ∧ l ≤ 200000 ∧ Kp w w' ∧
    ((M = 0 ∧ lost = false) → x.iv + y.iv = 0) ∧ (¬ (M = 0 ∧ lost = false) → ∀ up, rndS (x.neg != T) M l lost p up = rnd 0 (x.iv + y.iv) p up)
end Go.Proofs.YtndbnfeapdkoaaaDoor
