/-
  Walks: LinearCorrects.
-/
import Derived.Deep.DeepFit
import Derived.Test.YtpocjagbhiahdaaGreatDoorMDscN
import Derived.Test.YtpocjagbhiahdaaGreatDoorMR8C
namespace Go.Proofs.YtpocjagbhiahdaaGreatDoor
open Go.RowKit

set_option maxRecDepth 100000 in
set_option maxHeartbeats 8000000 in
theorem Corrects8_ok (a b : Option Addr) (m v : List (List RD)) (c d : Nat) (p : Int) (w : World) (hm : RowN w a m) (hv : RowN w b v) (hl : m.length ≤ 1100000) (hl2 : v.length ≤ 1100000) (hT : Tab w) :
    Calls Tryz.prog 3 #[.slice a m.length c, .slice b v.length d, .int .i64 p] w fun e w' => e = .returned (.bool true) ∧ Kp w w' := by
  have HM := Lib.hid hm
  have HV := Lib.hid hv
  have HT := Lib.hid hT
  clear hm hv hT
  go_enter Tryz.func3, Tryz.ntmps3
  go_wp2_with fail
  go_fit (awake8_any _ HT.out)
  rintro e w1 ⟨rfl, k1⟩
  go_wp2_with fail
  go_fit (greatM8_any m a c _ (HM.out.kp k1) hl)
  rintro e w2 ⟨rfl, k2⟩
  have HK := Lib.hid (k1.trans k2)
  clear k1 k2
  cases hw : grtM8 m with
  | true =>
    go_wp2_with fail
    go_ret
    exact ⟨rfl, HK.out⟩
  | false =>
  clear hw
  go_wp2_with fail
  go_fit (greatM8_any v b d _ (HV.out.kp HK.out) hl2)
  rintro e w2 ⟨rfl, k2⟩
  have HK2 := Lib.hid (HK.out.trans k2)
  clear k2 HK
  cases hw : grtM8 v with
  | true =>
    go_wp2_with fail
    go_ret
    exact ⟨rfl, HK2.out⟩
  | false =>
  clear hw
  by_cases hp : (200 : Int) < p
  · go_wp2_with fail
    go_ret
    exact ⟨rfl, HK2.out⟩
  go_wp2_with fail
  go_fit (lcorrect_any m v a b c d p _ (HM.out.kp HK2.out) (HV.out.kp HK2.out) hl hl2 (HT.out.kp HK2.out))
  rintro e w3 ⟨a3, Z, c3, rfl, hZ, pZ, oZ, lZ, k3⟩
  have HK3 := Lib.hid (HK2.out.trans k3)
  have HZ := Lib.hid (And.intro hZ (And.intro pZ oZ))
  have HL := Lib.hid lZ
  clear hZ pZ oZ lZ k3 HK2
  go_wp2_with fail
  go_fit (r8correct_any m v a b c d p _ (HM.out.kp HK3.out) (HV.out.kp HK3.out) hl hl2 (HT.out.kp HK3.out))
  rintro e w4 ⟨a4, Y, c4, rfl, hY, pY, oY, lY, k4⟩
  have HQ := Lib.hid (equal8_any Z Y a3 a4 c3 c4 w4 (HZ.out.1.kp k4) hY HL.out)
  rw [eqM8_pl (HZ.out.1.kp k4) hY HZ.out.2.2 oY (HZ.out.2.1.trans pY.symm)] at HQ
  have HK4 := Lib.hid (HK3.out.trans k4)
  clear hY pY oY lY k4 HK3
  generalize (corC m v p).2 = f
  go_wp2_with fail
  go_fit HQ.out
  rintro e w5 ⟨rfl, k5⟩
  go_wp2_with fail
  go_ret
  exact ⟨ret_bool (by simp), HK4.out.trans k5⟩
end Go.Proofs.YtpocjagbhiahdaaGreatDoor
