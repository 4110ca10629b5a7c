/-
  Walks: slices.EqualFunc at []api.Interval, []api.Dyadic.
-/
import Derived.Test.YtkohlmlmoapedaaGreatDoorMIdxI
import Derived.Test.YtkohlmlmoapedaaGreatDoorMIdxD
namespace Go.Proofs.YtkohlmlmoapedaaGreatDoor
open Go.RowKit

/-- equally long, and alike by p -/
def allID (p : RI → RD → Bool) (zs : List RI) (ys : List RD) : Bool := decide (zs.length = ys.length) && (zs.zip ys).all fun q => p q.1 q.2
theorem allID_true {p : RI → RD → Bool} {zs : List RI} {ys : List RD} : allID p zs ys = true ↔ zs.length = ys.length ∧ ∀ (i : Nat) (x : RI) (y : RD), zs[i]? = some x → ys[i]? = some y → p x y = true := by
  unfold allID
  rw [Bool.and_eq_true, decide_eq_true_eq, List.all_eq_true]
  refine and_congr_right fun hl => ⟨fun h i x y hx hy => ?_, fun h q hq => ?_⟩
  · refine h (x, y) (List.mem_of_getElem? (i := i) ?_)
    rw [List.getElem?_zip_eq_some]; exact ⟨hx, hy⟩
  · obtain ⟨i, hi⟩ := List.getElem?_of_mem hq
    have hi2 := List.getElem?_zip_eq_some.1 hi
    exact h i _ _ hi2.1 hi2.2
theorem allID_false {p : RI → RD → Bool} {zs : List RI} {ys : List RD} {i : Nat} {x : RI} {y : RD} (hx : zs[i]? = some x) (hy : ys[i]? = some y) (h : p x y = false) : allID p zs ys = false := by
  cases ha : allID p zs ys with
  | false => rfl
  | true => rw [(allID_true.1 ha).2 i x y hx hy] at h; cases h
/-- the function g answers p at each two elements, in whatever later world, and keeps all that was there -/
def AnsID (P : Program) (g : FuncId) (cap : Array Value) (w : World) (zs : List RI) (ys : List RD) (p : RI → RD → Bool) : Prop :=
  Enters P g ∧ ∀ x, x ∈ zs → ∀ y, y ∈ ys → ∀ w1, Kp w w1 → Calls P g (#[.agg #[.bool x.lo.neg, .slice x.lo.a x.lo.xs.length x.lo.c, .int .i64 x.lo.e, .bool x.hi.neg, .slice x.hi.a x.hi.xs.length x.hi.c, .int .i64 x.hi.e, .bool x.all], .agg #[.bool y.neg, .slice y.a y.xs.length y.c, .int .i64 y.e]] ++ cap) w1 fun e w2 => e = .returned (.bool (p x y)) ∧ Kp w1 w2

end Go.Proofs.YtkohlmlmoapedaaGreatDoor
