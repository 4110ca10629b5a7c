/-
  Walks: the eighth reference's Correct.
-/
import Derived.Deep.CutRange
import Derived.Deep.DeepFit
import Derived.Deep.LoopGhost
import Derived.Deep.RegionLaw
import Derived.Deep.RegionHeld3
import Derived.Test.YtpocjagbhiahdaaGreatDoorMArdN
import Derived.Test.YtpocjagbhiahdaaGreatDoorMKnuE
import Derived.Test.YtpocjagbhiahdaaGreatDoorMR3A
import Derived.Test.YtpocjagbhiahdaaGreatDoorMR7D
import Derived.Test.YtpocjagbhiahdaaGreatDoorMOpenN
import Derived.Test.YtpocjagbhiahdaaGreatDoorMR7N
import Derived.Test.YtpocjagbhiahdaaGreatDoorMR2I
import Derived.Test.YtpocjagbhiahdaaGreatDoorMIvM
import Derived.Test.YtpocjagbhiahdaaGreatDoorMR3D
import Derived.Test.YtpocjagbhiahdaaGreatDoorMSumH
namespace Go.Proofs.YtpocjagbhiahdaaGreatDoor
open Go.RowKit

theorem r3div_ok (a b : RD) {p : Nat} (up : Bool) (h0 : 8 ≤ p) (h1 : p ≤ 512) (W : World) (ha : a.ok W) (hb : b.ok W) :
    Calls Tryz.prog 47 #[.agg #[.bool a.neg, .slice a.a a.xs.length a.c, .int .i64 a.e], .agg #[.bool b.neg, .slice b.a b.xs.length b.c, .int .i64 b.e], .int .i64 p, .bool up] W (NumE W (dvP a.dy b.dy p up).1 (dvP a.dy b.dy p up).2) := by
  have h := r3div_any a b (p : Int) up W ha.1 hb.1
  rwa [divB_dy ha hb h0 h1] at h
theorem sqM_of {Z : List (List RI)} {m : List (List RD)} (hv : vlN m = true) (pZ : plM Z = ofF m) (oZ : okM Z) : sqM Z = sqN m ∧ Z.length = m.length := by
  have h := vlN_iff.1 hv
  have p2 : plM Z = tabM m.length (colsN m) (fun i j => ptP (atN m i j)) := by rw [pZ]; unfold ofF; rw [if_pos hv]
  unfold sqM sqN
  rw [vlM_tab p2 oZ h.1 h.2.1, hv, tab_len p2, colsM_tab p2 h.1.1]
  exact ⟨rfl, rfl⟩
set_option maxRecDepth 100000 in
set_option maxHeartbeats 16000000 in
theorem r8correct_any (m v : List (List RD)) (a b : Option Addr) (c d : Nat) (p : Int) (w : World) (hm : RowN w a m) (hv : RowN w b v) (hl : m.length ≤ 1100000) (hl2 : v.length ≤ 1100000) (hT : Tab w) :
    Calls Tryz.prog 9 #[.slice a m.length c, .slice b v.length d, .int .i64 p] w (MatE w (corC m v p).1 (corC m v p).2) := by
  have HM := Lib.hid hm
  have HV := Lib.hid hv
  have HT := Lib.hid hT
  obtain ⟨D, hD⟩ : ∃ D, D = corC m v p := ⟨_, rfl⟩
  have HD := Lib.hid hD
  rw [← hD]
  clear hm hv hT hD
  go_enter Tryz.func9, Tryz.ntmps9
  go_wp2_with fail
  go_fit (r7numbers_any a m c _ HM.out hl)
  rintro e w1 ⟨rfl, k1⟩
  cases hs : vlN m with
  | false =>
    have HE := Lib.hid (show D = ([], 1) by rw [HD.out]; refine corB_off ?_; unfold corB sqN; rw [hs]; cases preB p <;> rfl)
    clear hs
    go_wp2_with fail
    rw [HE.out]
    refine bodyPost_ret (v := .tuple #[.slice none 0 0, .int .i64 1]) (by simp [results, Tryz.results9, go_sem]) rfl ?_
    exact matE_nil rfl k1
  | true =>
  have HS := Lib.hid hs
  have HK1 := Lib.hid k1
  clear hs
  go_wp2_with fail
  go_fit (r7numbers_any b v d _ (HV.out.kp HK1.out) hl2)
  rintro e w2 ⟨rfl, k2⟩
  have HK2 := Lib.hid (HK1.out.trans k2)
  clear k1 k2 HK1
  cases hs : vlN v with
  | false =>
    have HE := Lib.hid (show D = ([], 1) by rw [HD.out]; refine corB_off ?_; unfold corB; rw [show sqN v = false by unfold sqN; rw [hs]; rfl]; cases preB p <;> cases sqN m <;> rfl)
    clear hs
    go_wp2_with fail
    rw [HE.out]
    refine bodyPost_ret (v := .tuple #[.slice none 0 0, .int .i64 1]) (by simp [results, Tryz.results9, go_sem]) rfl ?_
    exact matE_nil rfl HK2.out
  | true =>
  have HS2 := Lib.hid hs
  clear hs
  go_wp2_with fail
  go_fit (r7of_any a m c _ (HM.out.kp HK2.out) hl)
  rintro e w3 ⟨a3, X, c3, rfl, hX, pX, oX, lX, k3⟩
  have HK3 := Lib.hid (HK2.out.trans k3)
  have HX3 := Lib.hid (And.intro hX (And.intro pX oX))
  have HlX := Lib.hid lX
  clear hX pX oX k3 HK2 lX
  go_wp2_with fail
  go_fit (r7of_any b v d _ (HV.out.kp HK3.out) hl2)
  rintro e w4 ⟨a4, Y, c4, rfl, hY, pY, oY, lY, k4⟩
  have HK4 := Lib.hid (HK3.out.trans k4)
  have HX := Lib.hid (And.intro (HX3.out.1.kp k4) HX3.out.2)
  have HY := Lib.hid (And.intro hY (And.intro pY oY))
  have HlY := Lib.hid lY
  have HXS := Lib.hid (sqM_of HS.out HX.out.2.1 HX.out.2.2)
  have HYS := Lib.hid (sqM_of HS2.out HY.out.2.1 HY.out.2.2)
  clear hY pY oY k4 HK3 lY HX3
  go_wp2_with fail
  go_fit (r8case_any X a3 c3 p _ HX.out.1 HlX.out)
  rintro e w5 ⟨rfl, k5⟩
  cases hs : (sqM X && preB p) with
  | false =>
    have HE := Lib.hid (show D = ([], 1) by
      rw [HD.out]; refine corB_off ?_
      unfold corB
      rw [HXS.out.1, Bool.and_comm] at hs
      rw [← Bool.and_assoc, hs]; rfl)
    clear hs
    go_wp2_with fail
    rw [HE.out]
    refine bodyPost_ret (v := .tuple #[.slice none 0 0, .int .i64 1]) (by simp [results, Tryz.results9, go_sem]) rfl ?_
    exact matE_nil rfl (HK4.out.trans k5)
  | true =>
  have HP := Lib.hid (show preB p = true from (Bool.and_eq_true _ _ ▸ hs).2)
  have HQ1 := Lib.hid (show sqN m = true from HXS.out.1 ▸ (Bool.and_eq_true _ _ ▸ hs).1)
  have HK5 := Lib.hid (HK4.out.trans k5)
  have HY5 := Lib.hid (HY.out.1.kp k5)
  have HX5 := Lib.hid (HX.out.1.kp k5)
  clear hs k5
  go_wp2_with fail
  go_fit (r8case_any Y a4 c4 p _ HY5.out HlY.out)
  rintro e w6 ⟨rfl, k6⟩
  cases hs : (sqM Y && preB p) with
  | false =>
    have HE := Lib.hid (show D = ([], 1) by
      rw [HD.out]; refine corB_off ?_
      unfold corB
      rw [HYS.out.1, HP.out, Bool.and_true] at hs
      rw [hs]; cases preB p <;> cases sqN m <;> rfl)
    clear hs
    go_wp2_with fail
    rw [HE.out]
    refine bodyPost_ret (v := .tuple #[.slice none 0 0, .int .i64 1]) (by simp [results, Tryz.results9, go_sem]) rfl ?_
    exact matE_nil rfl (HK5.out.trans k6)
  | true =>
  have HQ2 := Lib.hid (show sqN v = true from HYS.out.1 ▸ (Bool.and_eq_true _ _ ▸ hs).1)
  have HK6 := Lib.hid (HK5.out.trans k6)
  have HY6 := Lib.hid (HY5.out.kp k6)
  have HX6 := Lib.hid (HX5.out.kp k6)
  clear hs k6 HY5 HX5 HK5 HK4
  by_cases hlen : X.length = Y.length
  rotate_left
  · have HE := Lib.hid (show D = ([], 1) by rw [HD.out]; refine corB_off ?_; unfold corB; rw [HP.out, HQ1.out, HQ2.out, decide_eq_false (by rw [← HXS.out.2, ← HYS.out.2]; exact hlen)]; rfl)
    have hne : ((X.length : Int) != (Y.length : Int)) = true := by rw [bne, beq_eq_false_iff_ne.2 (by omega)]; rfl
    clear hlen
    go_wp2_with fail
    rw [HE.out]
    refine bodyPost_ret (v := .tuple #[.slice none 0 0, .int .i64 1]) (by simp [results, Tryz.results9, go_sem]) rfl ?_
    exact matE_nil rfl HK6.out
  have hne : ((X.length : Int) != (Y.length : Int)) = false := by rw [hlen]; simp
  obtain ⟨q, hq⟩ : ∃ q : Nat, q = p.toNat := ⟨_, rfl⟩
  have hpq : p = (q : Int) := by have := preB_iff.1 HP.out; omega
  have hq0 : 8 ≤ q := by have := preB_iff.1 HP.out; omega
  have hq1 : q ≤ 512 := by have := preB_iff.1 HP.out; omega
  have HLN := Lib.hid (show v.length = m.length by rw [← HXS.out.2, ← HYS.out.2, hlen])
  have HN := Lib.hid (sqN_cols HQ1.out).2.2
  have HE0 := Lib.hid (show D = corO m v q (corD m v q) by
    rw [HD.out]; unfold corC
    rw [if_pos (by unfold corB; rw [HP.out, HQ1.out, HQ2.out, decide_eq_true HLN.out.symm]; rfl), ← hq])
  have HXT := Lib.hid (show plM X = tabM m.length m.length (fun i j => ptP (atN m i j)) from HX.out.2.1.trans (ofF_sq HQ1.out))
  have HYT := Lib.hid (show plM Y = tabM m.length m.length (fun i j => ptP (atN v i j)) from (HY.out.2.1.trans (ofF_sq HQ2.out)).trans (by rw [← HLN.out]))
  have HXo := Lib.hid HX.out.2.2
  have HYo := Lib.hid HY.out.2.2
  rw [hpq]
  clear hlen hq hpq HD HXS HYS HX HY
  go_upto_region 7 with fail
  have HMu := Lib.hid (r7mul_any a4 a3 Y X c4 c3 (q : Int) w6 HY6.out HX6.out HlY.out HlX.out (HT.out.kp HK6.out))
  have HE4 := Lib.hid (show mulC Y X (q : Int) = (tabM m.length m.length (fun i j => dotF q (fun t => ptP (atN v i t)) (fun t => ptP (atN m t j)) (m.length - 1)), 0) from by
    have hn := HN.out
    have pX := HXT.out
    have pY := HYT.out
    rw [mulC_sq (vlM_tab pY HYo.out hn hn) (vlM_tab pX HXo.out hn hn) (tab_len pY) (colsM_tab pY hn.1) (tab_len pX) (colsM_tab pX hn.1) hq0 hq1]
    refine congrArg (fun m => (m, (0 : Int))) (tabM_congr fun i j hi hj => ?_)
    exact dotF_congr _ fun t ht => ⟨atP_tab pY hi (by omega), atP_tab pX (by omega) hj⟩)
  rw [HE4.out] at HMu
  clear HE4
  go_wp2_with fail
  go_fit HMu.out
  rintro e w7 ⟨a7, Z, c7, rfl, hZ, pZ, oZ, lZ, k7⟩
  have HK7 := Lib.hid (HK6.out.trans k7)
  have HZ := Lib.hid (And.intro hZ (And.intro pZ oZ))
  have HlZ := Lib.hid lZ
  have HY7 := Lib.hid (HY6.out.kp k7)
  clear hZ pZ oZ lZ HMu k7 HX6 HY6 HK6
  go_wp2_with fail
  go_fit (r7idn_any m.length _ HN.out.1 HN.out.2)
  rintro e w8 ⟨a8, J, c8, rfl, hJ, pJ, oJ, lJ, k8⟩
  have HK8 := Lib.hid (HK7.out.trans k8)
  have HZ8 := Lib.hid (HZ.out.1.kp k8)
  have HY8 := Lib.hid (HY7.out.kp k8)
  have HSu := Lib.hid (r7sub_any a8 a7 J Z c8 c7 (q : Int) w8 hJ HZ8.out lJ HlZ.out (HT.out.kp HK8.out))
  have HE5 := Lib.hid (show entC (fun q X Y => pSub X Y q) J Z (q : Int) = (resQ m.length q (fun i t => ptP (atN v i t)) (fun t j => ptP (atN m t j)), 0) from by
    obtain ⟨_, pZ, oZ⟩ := HZ.out
    have hn := HN.out
    rw [entC_sq (vlM_tab pJ oJ hn hn) (vlM_tab pZ oZ hn hn) (tab_len pJ) (colsM_tab pJ hn.1) (tab_len pZ) (colsM_tab pZ hn.1) hq0 hq1]
    unfold resQ
    refine congrArg (fun m => (m, (0 : Int))) (tabM_congr fun i j hi hj => ?_)
    rw [atP_tab pJ hi hj, atP_tab pZ hi hj])
  rw [HE5.out] at HSu
  clear HE5 hJ pJ oJ lJ k8 HK7 HY7 HZ HlZ HZ8
  go_wp2_with fail
  go_fit HSu.out
  rintro e w9 ⟨a9, E, c9, rfl, hE, pE, oE, lE, k9⟩
  have HK9 := Lib.hid (HK8.out.trans k9)
  have HY9 := Lib.hid (HY8.out.kp k9)
  have HNo := Lib.hid (r7norm_any a9 E c9 (q : Int) w9 hE lE)
  obtain ⟨M, hM⟩ : ∃ M, M = nrmQ q (resQ m.length q (fun i t => ptP (atN v i t)) (fun t j => ptP (atN m t j))) .zero := ⟨_, rfl⟩
  have HQ0 := Lib.hid (show nrmO E (q : Int) = M by
    have hn := HN.out
    rw [nrmO_Q (vlM_tab pE oE hn hn) (preB_iff.2 ⟨by omega, by omega⟩), pE, hM]
    rfl)
  rw [HQ0.out] at HNo
  have HMp := Lib.hid (show ∀ x, M = some x → x.ok ∧ 0 ≤ x.iv from fun x hx => nrmQ_pos hq0 hq1 _ _ _ Dy.ok_zero (Int.le_of_eq (Dy.iv_eq_zero.2 rfl).symm) (hM.symm.trans hx))
  have HC0 := Lib.hid (show corD m v q = bndR q M by rw [corD_eq, hM]; rfl)
  rw [HC0.out] at HE0
  clear hE pE oE lE k9 HK8 HY8 HSu HQ0 hM HC0
  go_wp2_with fail
  go_fit HNo.out
  rintro e w10 ⟨x, rfl, xr, xd, xv, k10⟩
  have kA := (Kp.refl w10).alloc (.cells #[.bool x.neg, .slice x.a x.xs.length x.c, .int .i64 x.e] 42)
  have HK10 := Lib.hid (HK9.out.trans (k10.trans kA))
  have HY10 := Lib.hid (HY9.out.kp (k10.trans kA))
  have HXX := Lib.hid (And.intro (show x.ok (w10.alloc (.cells #[.bool x.neg, .slice x.a x.xs.length x.c, .int .i64 x.e] 42)) from ⟨xr.kp kA, xv⟩) xd)
  have hx3 : (w10.alloc (.cells #[.bool x.neg, .slice x.a x.xs.length x.c, .int .i64 x.e] 42)).cell? ⟨w10.heap.size, 0, none⟩ = some (.bool x.neg) ∧ (w10.alloc (.cells #[.bool x.neg, .slice x.a x.xs.length x.c, .int .i64 x.e] 42)).cell? ⟨w10.heap.size, 1, none⟩ = some (.slice x.a x.xs.length x.c) ∧ (w10.alloc (.cells #[.bool x.neg, .slice x.a x.xs.length x.c, .int .i64 x.e] 42)).cell? ⟨w10.heap.size, 2, none⟩ = some (.int .i64 x.e) := by simp
  have hsx : w10.heap.size < (w10.alloc (.cells #[.bool x.neg, .slice x.a x.xs.length x.c, .int .i64 x.e] 42)).heap.size := by simp
  clear xr xd xv k10 kA HK9 HY9 HNo
  go_upto_region 10 with fail
  generalize hW10 : w10.alloc _ = W10 at *
  clear hW10
  generalize w10.heap.size = b15 at *
  go_wp2_with fail
  go_fit (r2IntZ_any 1 _ (by decide))
  rintro e w11 ⟨y, rfl, yo, yd, k11⟩
  have kA := (Kp.refl w11).alloc (.cells #[.bool y.neg, .slice y.a y.xs.length y.c, .int .i64 y.e] 42)
  have HK11 := Lib.hid (HK10.out.trans (k11.trans kA))
  have HY11 := Lib.hid (HY10.out.kp (k11.trans kA))
  have HX11 := Lib.hid (And.intro (HXX.out.1.kp (k11.trans kA)) HXX.out.2)
  have HO11 := Lib.hid (And.intro (yo.kp kA) yd)
  have hx3 := keep3 (k11.trans kA) hx3
  have hy3 : (w11.alloc (.cells #[.bool y.neg, .slice y.a y.xs.length y.c, .int .i64 y.e] 42)).cell? ⟨w11.heap.size, 0, none⟩ = some (.bool y.neg) ∧ (w11.alloc (.cells #[.bool y.neg, .slice y.a y.xs.length y.c, .int .i64 y.e] 42)).cell? ⟨w11.heap.size, 1, none⟩ = some (.slice y.a y.xs.length y.c) ∧ (w11.alloc (.cells #[.bool y.neg, .slice y.a y.xs.length y.c, .int .i64 y.e] 42)).cell? ⟨w11.heap.size, 2, none⟩ = some (.int .i64 y.e) := by simp
  have hsy : w11.heap.size < (w11.alloc (.cells #[.bool y.neg, .slice y.a y.xs.length y.c, .int .i64 y.e] 42)).heap.size := by simp
  have hsx : b15 < (w11.alloc (.cells #[.bool y.neg, .slice y.a y.xs.length y.c, .int .i64 y.e] 42)).heap.size := by have := (k11.trans kA).size; omega
  clear yo yd k11 kA HK10 HY10 HXX
  cases M with
  | none =>
    have HE := Lib.hid (show D = ([], 15) by rw [HE0.out]; rfl)
    go_wp2_with fail
    rw [HE.out]
    refine bodyPost_ret (v := .tuple #[.slice none 0 0, .int .i64 15]) (by simp [results, Tryz.results9, go_sem]) rfl ?_
    exact matE_nil rfl HK11.out
  | some s =>
  go_upto_region 11 with fail
  generalize hW11 : w11.alloc _ = W11 at *
  clear hW11
  generalize w11.heap.size = b17 at *
  have HS3 := Lib.hid (And.intro hy3 hx3)
  have HMs := Lib.hid (HMp.out s rfl)
  have HCM := Lib.hid (r2cmp_rok x y W11 HX11.out.1 HO11.out.1)
  rw [show x.iv = s.iv from by show x.dy.iv = _; rw [HX11.out.2]; rfl, show y.iv = (intD 1).iv from by show y.dy.iv = _; rw [HO11.out.2]] at HCM
  clear HMp
  obtain ⟨x0, x1, x2⟩ := hx3
  obtain ⟨y0, y1, y2⟩ := hy3
  by_cases hge : (intD 1).iv ≤ s.iv
  · have hc : 0 ≤ cmpZ s.iv (intD 1).iv := by
      unfold cmpZ
      split
      · omega
      · split <;> decide
    have HE := Lib.hid (show D = ([], 15) by rw [HE0.out]; unfold bndR; dsimp only; rw [if_pos hge]; rfl)
    clear hge
    go_wp2_with fail
    go_fit HCM.out
    rintro e w12 ⟨rfl, k12⟩
    go_wp2_with fail
    rw [HE.out]
    refine bodyPost_ret (v := .tuple #[.slice none 0 0, .int .i64 15]) (by simp [results, Tryz.results9, go_sem]) rfl ?_
    exact matE_nil rfl (HK11.out.trans k12)
  have hc : ¬ 0 ≤ cmpZ s.iv (intD 1).iv := by
    unfold cmpZ
    rw [if_pos (by omega)]; decide
  obtain ⟨R, hR⟩ : ∃ R, R = adP (intD 1) s.opp q false := ⟨_, rfl⟩
  have HRp := Lib.hid (show R.2 = 0 → 0 < R.1.iv by rw [hR]; exact rest_pos hq0 hq1 (by omega))
  have HRo := Lib.hid (show R.1.ok by rw [hR]; exact adP_ok _ _ hq0 hq1 _)
  have HE1 := Lib.hid (show D = corO m v q (if R.2 ≠ 0 then none else if (dvP s R.1 q true).2 ≠ 0 then none else some (dvP s R.1 q true).1) by
    rw [HE0.out]; unfold bndR; dsimp only; rw [if_neg hge, hR])
  clear hge HE0
  go_wp2_with fail
  go_fit HCM.out
  rintro e w12 ⟨rfl, k12⟩
  have HK12 := Lib.hid (HK11.out.trans k12)
  have HY12 := Lib.hid (HY11.out.kp k12)
  have HX12 := Lib.hid (And.intro (HX11.out.1.kp k12) (show x.dy = s from HX11.out.2))
  have HO12 := Lib.hid (And.intro (HO11.out.1.kp k12) HO11.out.2)
  have HAD := Lib.hid (fun (W : World) (n : RD) (dn : n.dy = x.dy.opp) (on : n.ok W) (oy : y.ok W) => by
    have h := r3add_ok y n hq0 hq1 false W oy on
    rw [HO12.out.2, dn, HX12.out.2, ← hR] at h
    exact h)
  replace HS3 := Lib.hid (keep33 k12 HS3.out)
  have N1 := Lib.hid (show b17 < w12.heap.size by have := k12.size; omega)
  have N2 := Lib.hid (show b15 < w12.heap.size by have := k12.size; omega)
  clear hR k12 HCM HK11 HY11 HX11 HO11 x0 x1 x2 y0 y1 y2 hsx hsy
  go_upto_region 13 with fail
  clear hc
  obtain ⟨W12, hW12⟩ : ∃ X : World, X = w12 := ⟨_, rfl⟩
  subst hW12
  go_cut [18, 19] from 90 to 97 (fun s0 t0 wx => ∃ (b1 : Nat) (z : RD), s0 = .pointer (some ⟨b1, 0, none⟩) ∧ t0 = .int .i64 R.2 ∧ HasD W12 wx b1 z R.1)
  case first =>
    have KJ := Lib.hid (Kp.refl W12).drew
    have KZ := Lib.hid (show Kp W12 (W12.alloc (.cells #[.bool false, .slice none 0 0, .int .i64 0] 42)).drew from ((Kp.refl W12).alloc _).drew)
    have BZ := Lib.hid (show Box3 (W12.alloc (.cells #[.bool false, .slice none 0 0, .int .i64 0] 42)).drew W12.heap.size _ _ _ ∧ W12.heap.size ≤ W12.heap.size from ⟨Box3.new W12.drew _ _ _ _, Nat.le_refl _⟩)
    have hSd := keep33 KJ.out HS3.out
    have HSZ2 := Lib.hid (keep33 KZ.out HS3.out)
    go_region_held3 (fun w' => (w'.cell? ⟨b17, 0, none⟩ = some (.bool y.neg) ∧ w'.cell? ⟨b17, 1, none⟩ = some (.slice y.a y.xs.length y.c) ∧ w'.cell? ⟨b17, 2, none⟩ = some (.int .i64 y.e)) ∧ w'.cell? ⟨b15, 0, none⟩ = some (.bool x.neg) ∧ w'.cell? ⟨b15, 1, none⟩ = some (.slice x.a x.xs.length x.c) ∧ w'.cell? ⟨b15, 2, none⟩ = some (.int .i64 x.e)) (first | with_reducible assumption | with_reducible exact keep33 (by assumption) (by assumption) | with_reducible exact keep33 ((Kp.refl _).alloc _) (by assumption) | with_reducible exact set33x (o := 0) (o2 := 0) (Nat.ne_of_lt (Nat.lt_of_lt_of_le N1.out BF.out.2)) (Nat.ne_of_lt (Nat.lt_of_lt_of_le N2.out BF.out.2)) (by assumption) | with_reducible exact HSZ2.out | exact set33x (o := 0) (o2 := 0) (Nat.ne_of_lt (Nat.lt_of_lt_of_le N1.out BF.out.2)) (Nat.ne_of_lt (Nat.lt_of_lt_of_le N2.out BF.out.2)) (by assumption) | fail)
      (first
        | (go_at_call 46; (with_reducible refine (r2Neg_ok x _ (HX12.out.1.kp ?hk)).mono ?_)
           (case hk => first | with_reducible exact KJ.out | with_reducible exact KJ.out.alloc _ | with_reducible exact KZ.out | fail)
           rintro e v1 ⟨n, rfl, rn, dn, vn, j1⟩
           have ON := Lib.hid (And.intro (show n.ok v1 from ⟨rn, vn (Dy.opp_ok2 (rdok_dy HX12.out.1))⟩) (show n.dy = x.dy.opp from dn))
           clear rn dn vn
           (first | (replace BF := Lib.hid (And.intro (BF.out.1.kp j1) BF.out.2)) | (have BF := Lib.hid (And.intro (BZ.out.1.kp j1) BZ.out.2)) | (have BF := Lib.hid (And.intro ((Box3.new _ (.bool false) (.slice none 0 0) (.int .i64 0) 42).kp j1) KJ.out.size)) | skip)
           (first | (replace KJ := Lib.hid (KJ.out.trans j1)) | (replace KJ := Lib.hid (KZ.out.trans j1)) | (replace KJ := Lib.hid (KJ.out.trans (((Kp.refl _).alloc _).trans j1))) | fail)
           have hSn := keep33 KJ.out HS3.out)
        | (go_at_call 45; (with_reducible refine (HAD.out _ n ON.out.2 ?hn (HO12.out.1.kp ?hk)).mono ?_)
           (case hn => first | with_reducible exact ON.out.1 | with_reducible exact ON.out.1.kp ((Kp.refl _).alloc _) | fail)
           (case hk => first | with_reducible exact KJ.out | with_reducible exact KJ.out.alloc _ | with_reducible exact KZ.out | fail)
           rintro e v3 ⟨z, rfl, zr, zd, zv, j1⟩
           have OZ := Lib.hid (And.intro (show z.ok v3 from ⟨zr, zv HRo.out⟩) (show z.dy = R.1 from zd))
           clear zr zd zv
           (first | (replace BF := Lib.hid (And.intro (BF.out.1.kp j1) BF.out.2)) | (have BF := Lib.hid (And.intro (BZ.out.1.kp j1) BZ.out.2)) | (have BF := Lib.hid (And.intro ((Box3.new _ (.bool false) (.slice none 0 0) (.int .i64 0) 42).kp j1) KJ.out.size)) | skip)
           (first | (replace KJ := Lib.hid (KJ.out.trans j1)) | (replace KJ := Lib.hid (KZ.out.trans j1)) | (replace KJ := Lib.hid (KJ.out.trans (((Kp.refl _).alloc _).trans j1))) | fail)
           have hSn := keep33 KJ.out HS3.out
           try (obtain ⟨q0, q1, q2, f0, f1, f2⟩ := id BF.out.1))
        | fail)
    all_goals
      go_wp2_with fail
      go_meet
      case rel => first
        | exact ⟨_, z, rfl, rfl, hasD_store BF.out.1 (fun _ h => by cases h) (fun _ h => by cases h) (fun _ h => by cases h) OZ.out.1 OZ.out.2 KJ.out BF.out.2⟩
        | exact ⟨_, z, rfl, rfl, hasD_alloc OZ.out.1 OZ.out.2 KJ.out _⟩
  case rest =>
  obtain ⟨b18, z, rfl, rfl, hD1⟩ := hcut
  obtain ⟨W13, hW13⟩ : ∃ X : World, X = wc := ⟨_, rfl⟩
  subst hW13
  obtain ⟨hz3, hzo, hzd, hkz, hbz⟩ := hD1
  have HK13 := Lib.hid (HK12.out.trans hkz)
  have HY13 := Lib.hid (HY12.out.kp hkz)
  have HX13 := Lib.hid (HX12.out.1.kp hkz)
  have HZ13 := Lib.hid (And.intro hzo hzd)
  have hx3 := keep3 hkz HS3.out.2
  clear hzo hzd hkz hbz HAD HK12 HY12 HO12 HS3 N1 N2
  by_cases hf : R.2 = 0
  rotate_left
  · have HE := Lib.hid (show D = ([], 15) by rw [HE1.out, if_pos hf]; rfl)
    have g1 : (R.2 == 0) = false := beq_eq_false_iff_ne.2 hf
    have g2 : (R.2 != 0) = true := by rw [bne, g1]; rfl
    clear hf hx3 hz3
    go_wp2_with fail
    rw [HE.out]
    refine bodyPost_ret (v := .tuple #[.slice none 0 0, .int .i64 15]) (by simp [results, Tryz.results9, go_sem]) rfl ?_
    exact matE_nil rfl HK13.out
  obtain ⟨Q, hQ⟩ : ∃ Q, Q = dvP s R.1 q true := ⟨_, rfl⟩
  have HQo := Lib.hid (show Q.1.ok by rw [hQ]; exact dvP_okd hq0 hq1 _)
  have HE2 := Lib.hid (show D = corO m v q (if Q.2 ≠ 0 then none else some Q.1) by rw [HE1.out, if_neg (by rw [hf]; decide), hQ])
  have HQp := Lib.hid (show 0 ≤ Q.1.iv by rw [hQ]; exact dvP_pos hq0 hq1 HMs.out.2 (HRp.out hf))
  have HDV := Lib.hid (show Calls Tryz.prog 47 #[.agg #[.bool x.neg, .slice x.a x.xs.length x.c, .int .i64 x.e], .agg #[.bool z.neg, .slice z.a z.xs.length z.c, .int .i64 z.e], .int .i64 q, .bool true] W13 (NumE W13 Q.1 Q.2) by
    have h := r3div_ok x z true hq0 hq1 W13 HX13.out HZ13.out.1
    rw [HX12.out.2, HZ13.out.2, ← hQ] at h
    exact h)
  rw [hf]
  clear hf hQ HE1 HRp
  obtain ⟨x0, x1, x2⟩ := hx3
  obtain ⟨z0, z1, z2⟩ := hz3
  go_wp2_with fail
  go_fit HDV.out
  rintro e w14 ⟨u, rfl, ur, ud, uv, k14⟩
  have kA := (Kp.refl w14).alloc (.cells #[.bool u.neg, .slice u.a u.xs.length u.c, .int .i64 u.e] 42)
  have HK14 := Lib.hid (HK13.out.trans (k14.trans kA))
  have HY14 := Lib.hid (HY13.out.kp (k14.trans kA))
  have HU := Lib.hid (And.intro (show u.ok (w14.alloc (.cells #[.bool u.neg, .slice u.a u.xs.length u.c, .int .i64 u.e] 42)) from ⟨ur.kp kA, uv HQo.out⟩) (show u.dy = Q.1 from ud))
  have hu3 : (w14.alloc (.cells #[.bool u.neg, .slice u.a u.xs.length u.c, .int .i64 u.e] 42)).cell? ⟨w14.heap.size, 0, none⟩ = some (.bool u.neg) ∧ (w14.alloc (.cells #[.bool u.neg, .slice u.a u.xs.length u.c, .int .i64 u.e] 42)).cell? ⟨w14.heap.size, 1, none⟩ = some (.slice u.a u.xs.length u.c) ∧ (w14.alloc (.cells #[.bool u.neg, .slice u.a u.xs.length u.c, .int .i64 u.e] 42)).cell? ⟨w14.heap.size, 2, none⟩ = some (.int .i64 u.e) := by simp
  clear ur ud uv k14 kA x0 x1 x2 z0 z1 z2 HDV HK13 HY13 HX13 HZ13
  by_cases hg : Q.2 = 0
  rotate_left
  · have HE := Lib.hid (show D = ([], 15) by rw [HE2.out, if_pos hg]; rfl)
    have g1 : (Q.2 == 0) = false := beq_eq_false_iff_ne.2 hg
    have g2 : (Q.2 != 0) = true := by rw [bne, g1]; rfl
    clear hg hu3
    go_wp2_with fail
    rw [HE.out]
    refine bodyPost_ret (v := .tuple #[.slice none 0 0, .int .i64 15]) (by simp [results, Tryz.results9, go_sem]) rfl ?_
    exact matE_nil rfl HK14.out
  have HE3 := Lib.hid (show D = (corF m v q u.dy, 0) by rw [HE2.out, if_neg (by rw [hg]; decide), HU.out.2]; rfl)
  rw [hg]
  have HN8 : m.length ≤ 8 := HN.out.2
  clear hg HE2
  have hmk := make_rows (m.length : Int) m.length rfl (by omega)
  go_upto_region 17 with fail
  generalize hW14 : w14.alloc _ = W14 at *
  clear hW14
  generalize w14.heap.size = b20 at *
  have HU3 := Lib.hid hu3
  have HUp := Lib.hid (show 0 ≤ u.dy.iv by rw [HU.out.2]; exact HQp.out)
  clear hu3 HQp
  obtain ⟨X0, hX0⟩ : ∃ X0 : PI, X0 = ⟨u.dy.opp, u.dy, false⟩ := ⟨_, rfl⟩
  have HX0 := Lib.hid hX0
  have HUn := Lib.hid (show ∀ y : RD, y.dy = u.dy.opp → y.dy.iv ≤ u.dy.iv from fun y hy => by have := HUp.out; rw [hy, Dy.opp_iv]; omega)
  obtain ⟨n, hn⟩ : ∃ n, n = m.length := ⟨_, rfl⟩
  have HNL := Lib.hid hn
  rw [← hn] at HN8 hmk ⊢
  have hO := OutH.made W14 n
  have hmk := hmk W14
  clear hn hX0
  go_wp2_with fail
  generalize hW15 : W14.alloc _ = W15 at *
  have HO := Lib.hid hO
  clear hW15 hmk hO
  go_loopg [23] n (fun q v wr => ∃ R : List (List RI), R.length + q = n ∧ v = .int .i64 (R.length : Int) ∧ OutH W14 wr W14.heap.size n R ∧ plM R = tabM R.length n (fun _ _ => X0) ∧ okM R)
  case atStart => exact ⟨[], by simp, rfl, HO.out, rfl, fun r h => by simp at h⟩
  case round =>
  obtain ⟨R, hRq, rfl, hO, hpl, hok⟩ := hrel
  clear HO
  have HH := Lib.hid (And.intro hpl hok)
  have HOH := Lib.hid hO
  have hkr := hO.2.1
  clear hpl hok hO
  by_cases hlt : R.length < n
  rotate_left
  · have hRe : R.length = n := by omega
    have HRe := Lib.hid hRe
    clear hRe hRq
    have HN1 := Lib.hid (show 1 ≤ n by rw [HNL.out]; exact HN.out.1)
    have HPR := Lib.hid (show plM R = tabM n n (fun _ _ => X0) from HH.out.1.trans (by rw [HRe.out]))
    have HKr := Lib.hid hkr
    go_wp2_with fail
    go_fit (r7idn_any n _ HN1.out HN8)
    rintro e w16 ⟨aJ, J, cJ, rfl, hJ, pJ, oJ, lJ, j1⟩
    have HK16 := Lib.hid (HK14.out.trans (HKr.out.trans j1))
    have HY16 := Lib.hid (HY14.out.kp (HKr.out.trans j1))
    have HAd := Lib.hid (r7add_any aJ (some ⟨W14.heap.size, 0, none⟩) J R cJ n (q : Int) w16 hJ (HOH.out.rowM.kp j1) lJ (by have := HRe.out; omega) (HT.out.kp HK16.out))
    rw [HRe.out] at HAd
    have HE4 := Lib.hid (show entC (fun q X Y => pAdd X Y q) J R (q : Int) = (tabM n n (fun i j => pAdd (idP i j) X0 q), 0) from by
      have hn := And.intro HN1.out HN8
      have pR := HPR.out
      rw [entC_sq (vlM_tab pJ oJ hn hn) (vlM_tab pR HH.out.2 hn hn) (tab_len pJ) (colsM_tab pJ hn.1) (tab_len pR) (colsM_tab pR hn.1) hq0 hq1]
      refine congrArg (fun m => (m, (0 : Int))) (tabM_congr fun i j hi hj => ?_)
      rw [atP_tab pJ hi hj, atP_tab pR hi hj])
    rw [HE4.out] at HAd
    clear hJ pJ oJ lJ j1 HE4 HKr
    go_wp2_with fail
    go_fit HAd.out
    rintro e w17 ⟨aS, S, cS, rfl, hS, pS, oS, lS, j2⟩
    have HK17 := Lib.hid (HK16.out.trans j2)
    have HY17 := Lib.hid (HY16.out.kp j2)
    have HM2 := Lib.hid (r7mul_any aS a4 S Y cS c4 (q : Int) w17 hS HY17.out lS HlY.out (HT.out.kp HK17.out))
    have HE5 := Lib.hid (show mulC S Y (q : Int) = (corF m v q u.dy, 0) from by
      have hn := And.intro HN1.out HN8
      have pY := HYT.out
      rw [← HNL.out] at pY
      rw [mulC_sq (vlM_tab pS oS hn hn) (vlM_tab pY HYo.out hn hn) (tab_len pS) (colsM_tab pS hn.1) (tab_len pY) (colsM_tab pY hn.1) hq0 hq1]
      unfold corF
      rw [← HNL.out]
      refine congrArg (fun m => (m, (0 : Int))) (tabM_congr fun i j hi hj => ?_)
      rw [← HX0.out]
      exact dotF_congr _ fun t ht => ⟨atP_tab pS hi (by omega), atP_tab pY (by omega) hj⟩)
    rw [HE5.out] at HM2
    clear hS pS oS lS j2 HE5
    go_wp2_with fail
    go_fit HM2.out
    rintro e w18 ⟨a7, X9, c7, rfl, hX, pX, oX, lX, j3⟩
    have HX9 := Lib.hid (And.intro hX (And.intro pX (And.intro oX lX)))
    have HK18 := Lib.hid (HK17.out.trans j3)
    clear hX pX oX lX j3
    go_wp2_with fail
    rw [HE3.out]
    refine bodyPost_ret (v := .tuple #[.slice a7 X9.length c7, .int .i64 0]) (by simp [results, Tryz.results9, go_sem]) rfl ?_
    exact ⟨a7, X9, c7, rfl, HX9.out.1, HX9.out.2.1, HX9.out.2.2.1, HX9.out.2.2.2, HK18.out⟩
  have HMO := Lib.hid (HOH.out.open hlt)
  have Hlt := Lib.hid (And.intro hlt hRq)
  clear hRq
  have hj1 : (0 : Int) ≤ (R.length : Int) := by omega
  have hj2 : (R.length : Int) < (n : Int) := by omega
  go_wp2_with fail
  clear HOH
  obtain ⟨gk1, hgk1⟩ : ∃ x : Nat, x = gk := ⟨_, rfl⟩
  subst hgk1
  obtain ⟨wr1, hwr1⟩ : ∃ x : World, x = wr := ⟨_, rfl⟩
  subst hwr1
  go_loopg [24] n (fun q v wr => ∃ (t : Value) (cur : List RI), cur.length + q = n ∧ v = .int .i64 (cur.length : Int) ∧ OutM W14 wr W14.heap.size n R t cur ∧ plR cur = rowF cur.length (fun _ => X0) ∧ ∀ x ∈ cur, x.vl = true)
  case atStart => exact ⟨_, [], by simp, rfl, HMO.out, rfl, fun x h => by simp at h⟩
  case round =>
  obtain ⟨t, cur, hcq, rfl, hM, hpc, hvc⟩ := hrel
  clear HMO
  by_cases hlt2 : cur.length < n
  rotate_left
  · have hce : cur.length = n := by omega
    have hcl : cur.length ≤ 1100000 := by omega
    have hcc := Lib.hid (hM.close hcl)
    have HPC := Lib.hid (And.intro hpc (And.intro hvc hce))
    clear hpc hvc hcq hM hce hcl
    go_wp2_with fail
    go_roundg (gk1 - 1)
    case measure => have := Hlt.out; omega
    case rel =>
    refine ⟨R ++ [cur], by have := Hlt.out; rw [List.length_append, List.length_singleton]; omega, by rw [List.length_append, List.length_singleton]; go_num, hcc.out, ?_, okM_snoc HH.out.2 HPC.out.2.1⟩
    rw [plM_snoc, HH.out.1, List.length_append, List.length_singleton, tabM_snoc, HPC.out.1, HPC.out.2.2]
  have HPC := Lib.hid (And.intro hpc (And.intro hvc (And.intro hcq hlt2)))
  clear hpc hvc hcq
  go_upto_region 26 with fail
  have kd := (Kp.refl wr).drew
  have kk := hM.2.1.1
  have hM3 := hM.kp kd
  have hcell := hM3.cellF
  obtain ⟨hc1, hf1⟩ := id hcell
  have HM3 := Lib.hid hM3
  have KD := Lib.hid (kk.trans kd)
  have HUO := Lib.hid (HU.out.1.kp KD.out)
  obtain ⟨u0, u1, u2⟩ := keep3 KD.out HU3.out
  have hcl : cur.length + 1 ≤ 9000000 := by omega
  clear hM hM3 kd hcell kk
  go_region_law (first
    | (go_simp; go_at_call 46; (with_reducible refine (r2Neg_ok u _ HUO.out).mono ?_); rintro e v1 ⟨y, rfl, rn, dn, vn, j1⟩
       have hM4 := HM3.out.kp j1
       obtain ⟨hc1, hf1⟩ := hM4.cellF
       obtain ⟨u0, u1, u2⟩ := keep3 (KD.out.trans j1) HU3.out
       have kY := j1.alloc (.cells #[.bool (⟨y, u, false⟩ : RI).lo.neg, .slice (⟨y, u, false⟩ : RI).lo.a (⟨y, u, false⟩ : RI).lo.xs.length (⟨y, u, false⟩ : RI).lo.c, .int .i64 (⟨y, u, false⟩ : RI).lo.e, .bool (⟨y, u, false⟩ : RI).hi.neg, .slice (⟨y, u, false⟩ : RI).hi.a (⟨y, u, false⟩ : RI).hi.xs.length (⟨y, u, false⟩ : RI).hi.c, .int .i64 (⟨y, u, false⟩ : RI).hi.e, .bool (⟨y, u, false⟩ : RI).all] 44)
       have hM5 := HM3.out.kp kY
       obtain ⟨hc1, hf1⟩ := hM5.cellF
       have hown := hM5.2.1
       have hzA : (⟨y, u, false⟩ : RI).rd (v1.alloc (.cells #[.bool (⟨y, u, false⟩ : RI).lo.neg, .slice (⟨y, u, false⟩ : RI).lo.a (⟨y, u, false⟩ : RI).lo.xs.length (⟨y, u, false⟩ : RI).lo.c, .int .i64 (⟨y, u, false⟩ : RI).lo.e, .bool (⟨y, u, false⟩ : RI).hi.neg, .slice (⟨y, u, false⟩ : RI).hi.a (⟨y, u, false⟩ : RI).hi.xs.length (⟨y, u, false⟩ : RI).hi.c, .int .i64 (⟨y, u, false⟩ : RI).hi.e, .bool (⟨y, u, false⟩ : RI).all] 44)) := ⟨rn.kp ((Kp.refl v1).alloc _), (HUO.out.kp kY).1⟩
       have HZ := Lib.hid (And.intro (show PI.mk y.dy u.dy false = X0 by rw [HX0.out, dn]) (vl_mk2 (vn (Dy.opp_ok2 (rdok_dy HUO.out))) HUO.out.2 (HUn.out y dn)))
       have HM5 := Lib.hid hM5
       clear hM5 hM4 kY rn dn vn)
    | (refine step_append_ivg (by rfl) _ _ (by rfl) W14 t cur (by rfl) hown _ _ (by rfl) ⟨y, u, false⟩ hzA (by simp) hcl ?_; intro a' c' w9 hown9 hgrow hblk
       obtain ⟨hc1, hf1⟩ := HM5.out.cellG hgrow)
    | fail)
  all_goals
    have hst := OutM.step HM5.out hown9 hgrow hblk HM5.out.2.1.noU
    go_wp2_with fail
    go_roundg (gk - 1)
    case measure => have := HPC.out.2.2; omega
    case rel =>
      refine ⟨_, cur ++ [⟨y, u, false⟩], by have := HPC.out.2.2; rw [List.length_append, List.length_singleton]; omega, by rw [List.length_append, List.length_singleton]; go_num, hst, ?_, ok_snoc HPC.out.2.1 HZ.out.2⟩
      rw [plR_snoc, HPC.out.1, List.length_append, List.length_singleton, rowF_snoc]
      exact congrArg (fun z => rowF cur.length (fun _ => X0) ++ [z]) HZ.out.1
end Go.Proofs.YtpocjagbhiahdaaGreatDoor
