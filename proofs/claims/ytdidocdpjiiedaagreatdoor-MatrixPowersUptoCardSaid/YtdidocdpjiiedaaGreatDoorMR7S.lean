/-
  Walks: the seventh reference's fault and Add.
-/
import Derived.Deep.RegionHeld3
import Derived.Test.YtdidocdpjiiedaaGreatDoorMR7I
import Derived.Test.YtdidocdpjiiedaaGreatDoorMR5C
import Derived.Test.YtdidocdpjiiedaaGreatDoorMR5D
import Derived.Test.YtdidocdpjiiedaaGreatDoorMR5B
namespace Go.Proofs.YtdidocdpjiiedaaGreatDoor
open Go.RowKit

/-- the error of two matrices and a precision -/
def faultN (m n : List (List RI)) (p : Int) : Int := if (!vlM m || !vlM n) = true then 1 else if preB p = false then 2 else 0
set_option maxHeartbeats 4000000 in
theorem r7fault_any (a b : Option Addr) (m n : List (List RI)) (c d : Nat) (p : Int) (w : World) (hm : RowM w a m) (hn : RowM w b n) (hl : m.length ≤ 1100000) (hl2 : n.length ≤ 1100000) :
    Calls Tryz.prog 65 #[.slice a m.length c, .slice b n.length d, .int .i64 p] w fun e w' => e = .returned (.int .i64 (faultN m n p)) ∧ Kp w w' := by
  have HM := Lib.hid hm
  have HN := Lib.hid hn
  clear hm hn
  go_enter Tryz.func65, Tryz.ntmps65
  go_wp2_with fail
  go_fit (r7valid_any a m c _ HM.out hl)
  rintro e w1 ⟨rfl, k1⟩
  cases hvm : vlM m with
  | false =>
    have H := Lib.hid (show faultN m n p = 1 by unfold faultN; rw [hvm]; rfl)
    clear hvm
    go_wp2_with fail
    go_ret
    exact ⟨ret_int H.out.symm, k1⟩
  | true =>
    have HVM := Lib.hid hvm
    clear hvm
    go_wp2_with fail
    go_fit (r7valid_any b n d _ (HN.out.kp k1) hl2)
    rintro e w2 ⟨rfl, k2⟩
    have hk2 := k1.trans k2
    cases hvn : vlM n with
    | false =>
      have H := Lib.hid (show faultN m n p = 1 by unfold faultN; rw [HVM.out, hvn]; rfl)
      clear hvn
      go_wp2_with fail
      go_ret
      exact ⟨ret_int H.out.symm, hk2⟩
    | true =>
      have HVN := Lib.hid hvn
      clear hvn
      go_wp2_with fail
      go_fit (r3prec_any p _)
      rintro e w3 ⟨rfl, rfl⟩
      cases hp : preB p with
      | false =>
        have H := Lib.hid (show faultN m n p = 2 by unfold faultN; rw [HVM.out, HVN.out, hp]; rfl)
        clear hp
        go_wp2_with fail
        go_ret
        exact ⟨ret_int H.out.symm, hk2⟩
      | true =>
        have H := Lib.hid (show faultN m n p = 0 by unfold faultN; rw [HVM.out, HVN.out, hp]; rfl)
        clear hp
        go_wp2_with fail
        go_ret
        exact ⟨ret_int H.out.symm, hk2⟩
theorem OwnN.base {wb w : World} {v : Value} {zs : List RI} (h : OwnN wb w v zs) : Kp wb w := h.1
end Go.Proofs.YtdidocdpjiiedaaGreatDoor
