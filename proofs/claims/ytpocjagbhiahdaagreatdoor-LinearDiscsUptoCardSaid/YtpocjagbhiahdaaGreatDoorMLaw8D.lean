/-
  Walks: LinearDiscs.
-/
import Derived.Deep.DeepFit
import Derived.Test.YtpocjagbhiahdaaGreatDoorMDscN
import Derived.Test.YtpocjagbhiahdaaGreatDoorMR8E
namespace Go.Proofs.YtpocjagbhiahdaaGreatDoor
open Go.RowKit

set_option maxRecDepth 100000 in
set_option maxHeartbeats 8000000 in
theorem Discs8_ok (a : Option Addr) (m : List (List RI)) (c : Nat) (p : Int) (w : World) (hm : RowM w a m) (hl : m.length ≤ 1100000) (hT : Tab w) :
    Calls Tryz.prog 4 #[.slice a m.length c, .int .i64 p] w fun e w' => e = .returned (.bool true) ∧ Kp w w' := by
  have HM := Lib.hid hm
  have HT := Lib.hid hT
  clear hm hT
  go_enter Tryz.func4, Tryz.ntmps4
  go_wp2_with fail
  go_fit (awake8_any _ HT.out)
  rintro e w1 ⟨rfl, k1⟩
  go_wp2_with fail
  go_fit (wideM8_any m a c _ (HM.out.kp k1) hl)
  rintro e w2 ⟨rfl, k2⟩
  have HK := Lib.hid (k1.trans k2)
  clear k1 k2
  cases hw : widM8 m with
  | true =>
    go_wp2_with fail
    go_ret
    exact ⟨rfl, HK.out⟩
  | false =>
  clear hw
  by_cases hp : (200 : Int) < p
  · go_wp2_with fail
    go_ret
    exact ⟨rfl, HK.out⟩
  go_wp2_with fail
  go_fit (ldiscs_any m a c p _ (HM.out.kp HK.out) hl (HT.out.kp HK.out))
  rintro e w3 ⟨a3, Z, c3, rfl, hZ, pZ, vZ, lZ, k3⟩
  have HK3 := Lib.hid (HK.out.trans k3)
  have HZ := Lib.hid (And.intro hZ (And.intro pZ vZ))
  have HL := Lib.hid lZ
  clear hZ pZ vZ lZ k3 HK
  go_wp2_with fail
  go_fit (r8discs_any m a c p _ (HM.out.kp HK3.out) hl)
  rintro e w4 ⟨a4, Y, c4, rfl, hY, pY, vY, lY, k4⟩
  have HQ := Lib.hid (eqrow8_any Z Y a3 a4 c3 c4 w4 (HZ.out.1.kp k4) hY HL.out)
  rw [eqR8_pl (HZ.out.1.kp k4) hY HZ.out.2.2 vY (HZ.out.2.1.trans pY.symm)] at HQ
  have HK4 := Lib.hid (HK3.out.trans k4)
  clear hY pY vY lY k4 HK3
  generalize (dscC m p).2 = f
  go_wp2_with fail
  go_fit HQ.out
  rintro e w5 ⟨rfl, k5⟩
  go_wp2_with fail
  go_ret
  exact ⟨ret_bool (by simp), HK4.out.trans k5⟩
end Go.Proofs.YtpocjagbhiahdaaGreatDoor
