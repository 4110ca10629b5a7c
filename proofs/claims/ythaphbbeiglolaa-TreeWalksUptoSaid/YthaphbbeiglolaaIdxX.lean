/-
  Walks: slices.IndexFunc, ContainsFunc at trees, with a function that changes what it holds.
-/
import Derived.Test.YthaphbbeiglolaaTreM
namespace Go.Proofs.Ythaphbbeiglolaa
open Go.RowKit

/-- the function goes on from J k to J (k + 1) at each element, or answers true and leaves R k -/
def StepX (P : Program) (g : FuncId) (cap : Array Value) (l : List Ex) (J R : Nat → World → Prop) : Prop :=
  Enters P g ∧ ∀ (k : Nat) (x : Ex), l[k]? = some x → ∀ W, J k W → Calls P g (#[.agg #[.int .i64 x.kind, .int .i64 x.rn, .int .i64 x.rd, .string x.name, .int .i64 x.pw, .slice x.a x.l.length x.c]] ++ cap) W fun e W' => (e = .returned (.bool true) ∧ R k W') ∨ (e = .returned (.bool false) ∧ J (k + 1) W')
set_option maxHeartbeats 4000000 in
theorem idxX (a : Option Addr) (l : List Ex) (c B : Nat) (g : FuncId) (cap : Array Value) (w : World) (J R : Nat → World → Prop) (hm : l.length ≤ 1100000) (hrow : ∀ k W, J k W → RowX W B a l) (hJ : J 0 w) (hp : StepX Try.prog g cap l J R) :
    Calls Try.prog 92 #[.slice a l.length c, .func (.func g) #[] cap] w fun e w' => (∃ k, k < l.length ∧ e = .returned (.int .i64 (k : Int)) ∧ R k w') ∨ (e = .returned (.int .i64 (-1)) ∧ J l.length w') := by
  have HR := Lib.hid hrow
  have HP := Lib.hid hp.2
  have hgo : ∀ args w, (callFunc g args).run Try.prog w = .ok (.enter g args) w := hp.1
  clear hrow hp
  go_enter Try.func92, Try.ntmps92
  go_wp2
  go_loopw [8] (fun x wr => ∃ k : Nat, k ≤ l.length ∧ x = .int .i64 k ∧ J k wr) (fun x _ => l.length - (intOf x).toNat)
  case atStart => exact ⟨0, by omega, rfl, hJ⟩
  case round =>
    obtain ⟨k, hk, rfl, hj⟩ := hrel
    have Hj := Lib.hid hj
    clear hj hJ
    by_cases hlt : k < l.length
    · obtain ⟨x, hx⟩ : ∃ x, l[k]? = some x := ⟨_, List.getElem?_eq_getElem hlt⟩
      obtain ⟨b, o, rfl, hb, h0, h1, h2, h3, h4, h5⟩ := (HR.out k wr Hj.out) k x hx
      have Hc := Lib.hid (HP.out k x hx wr Hj.out)
      clear hx hb
      go_wp2_with (refine Hc.out.mono ?_; rintro e w2 (⟨rfl, hq⟩ | ⟨rfl, hq⟩))
      · go_wp2
        go_ret
        exact .inl ⟨k, hlt, rfl, hq⟩
      · go_wp2
        go_roundw
        case rel => exact ⟨k + 1, by omega, by go_num, hq⟩
        case measure => simp [intOf]; omega
    · obtain rfl : k = l.length := by omega
      go_wp2
      go_ret
      exact .inr ⟨rfl, Hj.out⟩
set_option maxHeartbeats 400000 in
theorem containsX (a : Option Addr) (l : List Ex) (c B : Nat) (g : FuncId) (cap : Array Value) (w : World) (J R : Nat → World → Prop) (hm : l.length ≤ 1100000) (hrow : ∀ k W, J k W → RowX W B a l) (hJ : J 0 w) (hp : StepX Try.prog g cap l J R) :
    Calls Try.prog 69 #[.slice a l.length c, .func (.func g) #[] cap] w fun e w' => (e = .returned (.bool true) ∧ ∃ k, k < l.length ∧ R k w') ∨ (e = .returned (.bool false) ∧ J l.length w') := by
  have Hc := Lib.hid (idxX a l c B g cap w J R hm hrow hJ hp)
  clear hp hrow hJ
  go_enter Try.func69, Try.ntmps69
  go_wp2_with (refine Hc.out.mono ?_; rintro e w2 (⟨k, hk, rfl, hq⟩ | ⟨rfl, hq⟩))
  · have hk0 : (0 : Int) ≤ (k : Int) := by omega
    go_wp2
    go_ret
    exact .inl ⟨rfl, k, hk, hq⟩
  · go_wp2
    go_ret
    exact .inr ⟨rfl, hq⟩
end Go.Proofs.Ythaphbbeiglolaa
