/-
  Walks: linear.Correct.
-/
import Derived.Deep.CutRange
import Derived.Deep.DeepFit
import Derived.Deep.RegionHeld3
import Derived.Test.YtbhmhfnfceakoaaGreatDoorMBndN
import Derived.Test.YtbhmhfnfceakoaaGreatDoorMArdN
namespace Go.Proofs.YtbhmhfnfceakoaaGreatDoor
open Go.RowKit

theorem sqN_cols {m : List (List RD)} (h : sqN m = true) : vlN m = true ∧ colsN m = m.length ∧ 1 ≤ m.length ∧ m.length ≤ 8 := by
  have h1 := (sqN_iff.1 h).1
  unfold sqN at h
  rw [Bool.and_eq_true, decide_eq_true_eq] at h
  exact ⟨h.1, h.2.symm, h1⟩
theorem ofF_sq {m : List (List RD)} (h : sqN m = true) : ofF m = tabM m.length m.length (fun i j => ptP (atN m i j)) := by
  obtain ⟨h1, h2, _⟩ := sqN_cols h
  unfold ofF
  rw [if_pos h1, h2]
theorem resQ_congr {n p : Nat} {V V' A A' : Nat → Nat → PI} (hn : 1 ≤ n) (hV : ∀ i j, i < n → j < n → V i j = V' i j) (hA : ∀ i j, i < n → j < n → A i j = A' i j) : resQ n p V A = resQ n p V' A' := by
  unfold resQ
  refine tabM_congr fun i j hi hj => ?_
  rw [dotF_congr (n - 1) fun t ht => ⟨hV i t hi (by omega), hA t j (by omega) hj⟩]
theorem corB_off {a v : List (List RD)} {p : Int} (h : corB a v p = false) : corC a v p = ([], 1) := by unfold corC; rw [if_neg (by rw [h]; decide)]
set_option maxRecDepth 100000 in
set_option maxHeartbeats 8000000 in
theorem lcorrect_any (m v : List (List RD)) (a b : Option Addr) (c d : Nat) (p : Int) (w : World) (hm : RowN w a m) (hv : RowN w b v) (hl : m.length ≤ 1100000) (hl2 : v.length ≤ 1100000) (hT : Tab w) :
    Calls Tryz.prog 75 #[.slice a m.length c, .slice b v.length d, .int .i64 p] w (MatE w (corC m v p).1 (corC m v p).2) := by
  have HM := Lib.hid hm
  have HV := Lib.hid hv
  have HT := Lib.hid hT
  obtain ⟨D, hD⟩ : ∃ D, D = corC m v p := ⟨_, rfl⟩
  have HD := Lib.hid hD
  rw [← hD]
  clear hm hv hT hD
  go_enter Tryz.func75, Tryz.ntmps75
  go_wp2_with fail
  go_fit (lprecise_any p _)
  rintro e w0 ⟨rfl, rfl⟩
  cases hp : preB p with
  | false =>
    have HE := Lib.hid (show D = ([], 1) by rw [HD.out]; refine corB_off ?_; unfold corB; rw [hp]; rfl)
    clear hp
    go_wp2_with fail
    rw [HE.out]
    refine bodyPost_ret (v := .tuple #[.slice none 0 0, .int .i64 1]) (by simp [results, Tryz.results75, go_sem]) rfl ?_
    exact matE_nil rfl (Kp.refl _)
  | true =>
  have HP := Lib.hid hp
  clear hp
  go_wp2_with fail
  go_fit (lnumbers_any m a c _ HM.out hl)
  rintro e w1 ⟨rfl, k1⟩
  cases hs : sqN m with
  | false =>
    have HE := Lib.hid (show D = ([], 1) by rw [HD.out]; refine corB_off ?_; unfold corB; rw [HP.out, hs]; rfl)
    clear hs
    go_wp2_with fail
    rw [HE.out]
    refine bodyPost_ret (v := .tuple #[.slice none 0 0, .int .i64 1]) (by simp [results, Tryz.results75, go_sem]) rfl ?_
    exact matE_nil rfl k1
  | true =>
  have HS := Lib.hid hs
  have HK1 := Lib.hid k1
  clear hs
  go_wp2_with fail
  go_fit (lnumbers_any v b d _ (HV.out.kp HK1.out) hl2)
  rintro e w2 ⟨rfl, k2⟩
  have HK2 := Lib.hid (HK1.out.trans k2)
  clear k1 k2 HK1
  cases hs : sqN v with
  | false =>
    have HE := Lib.hid (show D = ([], 1) by rw [HD.out]; refine corB_off ?_; unfold corB; rw [HP.out, HS.out, hs]; rfl)
    clear hs
    go_wp2_with fail
    rw [HE.out]
    refine bodyPost_ret (v := .tuple #[.slice none 0 0, .int .i64 1]) (by simp [results, Tryz.results75, go_sem]) rfl ?_
    exact matE_nil rfl HK2.out
  | true =>
  have HS2 := Lib.hid hs
  clear hs
  by_cases hlen : m.length = v.length
  rotate_left
  · have HE := Lib.hid (show D = ([], 1) by rw [HD.out]; refine corB_off ?_; unfold corB; rw [HP.out, HS.out, HS2.out, decide_eq_false hlen]; rfl)
    have hne : ((m.length : Int) != (v.length : Int)) = true := by rw [bne, beq_eq_false_iff_ne.2 (by omega)]; rfl
    clear hlen
    go_wp2_with fail
    rw [HE.out]
    refine bodyPost_ret (v := .tuple #[.slice none 0 0, .int .i64 1]) (by simp [results, Tryz.results75, go_sem]) rfl ?_
    exact matE_nil rfl HK2.out
  have hne : ((m.length : Int) != (v.length : Int)) = false := by rw [hlen]; simp
  obtain ⟨q, hq⟩ : ∃ q : Nat, q = p.toNat := ⟨_, rfl⟩
  have hpq : p = (q : Int) := by have := preB_iff.1 HP.out; omega
  have hq0 : 8 ≤ q := by have := preB_iff.1 HP.out; omega
  have hq1 : q ≤ 512 := by have := preB_iff.1 HP.out; omega
  have HLN := Lib.hid hlen
  have HN := Lib.hid (sqN_cols HS.out).2.2
  have HE0 := Lib.hid (show D = corO m v q (corD m v q) by
    rw [HD.out]; unfold corC
    rw [if_pos (by unfold corB; rw [HP.out, HS.out, HS2.out, decide_eq_true hlen]; rfl), ← hq])
  rw [hpq]
  clear hlen hq hpq HD
  go_wp2_with fail
  go_fit (mof_any b v d _ (HV.out.kp HK2.out) hl2)
  rintro e w3 ⟨a3, Z, c3, rfl, hZ, pZ, oZ, lZ, k3⟩
  have HK3 := Lib.hid (HK2.out.trans k3)
  have HZ := Lib.hid (And.intro hZ (And.intro ((pZ.trans (ofF_sq HS2.out)).trans (by rw [← HLN.out])) oZ))
  have HlZ := Lib.hid lZ
  clear hZ pZ oZ k3 HK2 lZ
  go_wp2_with fail
  go_fit (mof_any a m c _ (HM.out.kp HK3.out) hl)
  rintro e w4 ⟨a4, Y, c4, rfl, hY, pY, oY, lY, k4⟩
  have HK4 := Lib.hid (HK3.out.trans k4)
  have HT4 := Lib.hid (HT.out.kp HK4.out)
  have HB := Lib.hid (by
    obtain ⟨hZ, pZ, oZ⟩ := HZ.out
    have pY2 := pY.trans (ofF_sq HS.out)
    have hn := HN.out
    have := lbound_any Z Y a3 a4 c3 c4 m.length q w4 (hZ.kp k4) hY (vlM_tab pZ oZ hn hn) (vlM_tab pY2 oY hn hn) (tab_len pZ) (colsM_tab pZ hn.1) (tab_len pY2) (colsM_tab pY2 hn.1) hq0 hq1 HT4.out
    rw [show bndQ (resQ m.length q (atP Z) (atP Y)) q = corD m v q by
      rw [corD_eq]
      exact congrArg (fun x => bndQ x q) (resQ_congr hn.1 (fun i j hi hj => atP_tab pZ hi hj) (fun i j hi hj => atP_tab pY2 hi hj))] at this
    exact this)
  have HCp := Lib.hid (show ∀ x, corD m v q = some x → x.ok ∧ 0 ≤ x.iv from fun x hx => bndQ_pos hq0 hq1 ((corD_eq m v q).symm.trans hx))
  have HZ4 := Lib.hid (HZ.out.1.kp k4)
  clear hY pY oY k4 HK3 lY
  obtain ⟨C, hC⟩ : ∃ C, C = corD m v q := ⟨_, rfl⟩
  rw [← hC] at HB HE0 HCp
  clear hC
  go_wp2_with fail
  go_fit HB.out
  rintro e w5 ⟨y, rfl, yr, yd, yv, k5⟩
  have kA := (Kp.refl w5).alloc (.cells #[.bool y.neg, .slice y.a y.xs.length y.c, .int .i64 y.e] 38)
  have HK5 := Lib.hid (HK4.out.trans (k5.trans kA))
  cases C with
  | none =>
    have HE := Lib.hid (show D = ([], 15) by rw [HE0.out]; rfl)
    clear yd
    go_wp2_with fail
    rw [HE.out]
    refine bodyPost_ret (v := .tuple #[.slice none 0 0, .int .i64 15]) (by simp [results, Tryz.results75, go_sem]) rfl ?_
    exact matE_nil rfl HK5.out
  | some dd =>
  have HE := Lib.hid (show D = (corF m v q dd, 0) by rw [HE0.out]; rfl)
  have HY := Lib.hid (And.intro (show y.ok (w5.alloc (.cells #[.bool y.neg, .slice y.a y.xs.length y.c, .int .i64 y.e] 38)) from ⟨yr.kp kA, yv⟩) (show y.dy = dd from yd))
  have HYp := Lib.hid (show 0 ≤ y.dy.iv by rw [HY.out.2]; exact (HCp.out dd rfl).2)
  have hy3 : (w5.alloc (.cells #[.bool y.neg, .slice y.a y.xs.length y.c, .int .i64 y.e] 38)).cell? ⟨w5.heap.size, 0, none⟩ = some (.bool y.neg) ∧ (w5.alloc (.cells #[.bool y.neg, .slice y.a y.xs.length y.c, .int .i64 y.e] 38)).cell? ⟨w5.heap.size, 1, none⟩ = some (.slice y.a y.xs.length y.c) ∧ (w5.alloc (.cells #[.bool y.neg, .slice y.a y.xs.length y.c, .int .i64 y.e] 38)).cell? ⟨w5.heap.size, 2, none⟩ = some (.int .i64 y.e) := by simp
  have HZ5 := Lib.hid (HZ4.out.kp (k5.trans kA))
  have HT5 := Lib.hid (HT4.out.kp (k5.trans kA))
  clear yd yr yv k5 kA HT4 HK4 HB HE0 HCp
  go_upto_region 6 with fail
  generalize hW5 : w5.alloc _ = W5 at *
  clear hW5
  generalize w5.heap.size = b8 at *
  have KJ := Lib.hid (Kp.refl W5).drew
  have hSd := keep3 KJ.out hy3
  have HS6 := Lib.hid hy3
  clear hy3
  go_region_held3 (fun w' => w'.cell? ⟨b8, 0, none⟩ = some (.bool y.neg) ∧ w'.cell? ⟨b8, 1, none⟩ = some (.slice y.a y.xs.length y.c) ∧ w'.cell? ⟨b8, 2, none⟩ = some (.int .i64 y.e)) (first | with_reducible assumption | with_reducible exact keep3 (by assumption) (by assumption) | fail)
    (first
      | (go_at_call 36; (with_reducible refine (midn_any m.length _ HN.out.1 HN.out.2 (HT5.out.kp KJ.out)).mono ?_); rintro e v1 ⟨aJ, J, cJ, rfl, hJ, pJ, oJ, lJ, j1⟩
         have HJ := Lib.hid (And.intro hJ (And.intro pJ oJ))
         have HlJ := Lib.hid lJ
         replace KJ := Lib.hid (KJ.out.trans j1)
         clear hJ pJ oJ lJ
         have hSn := keep3 KJ.out HS6.out)
      | (go_at_call 144; (with_reducible refine (laround_any m.length y _ HN.out.1 HN.out.2 (HY.out.1.kp KJ.out) HYp.out).mono ?_); rintro e v2 ⟨aR, R, cR, rfl, hR, pR, oR, lR, j1⟩
         have HR := Lib.hid (And.intro hR (And.intro pR oR))
         have HlR := Lib.hid lR
         replace KJ := Lib.hid (KJ.out.trans j1)
         have HJ2 := Lib.hid (HJ.out.1.kp j1)
         clear hR pR oR lR
         have HAdd := Lib.hid (madd_any aJ aR J R cJ cR (q : Int) v2 HJ2.out HR.out.1 HlJ.out HlR.out (HT5.out.kp KJ.out))
         have hSn := keep3 KJ.out HS6.out)
      | (go_at_call 143; (with_reducible refine HAdd.out.mono ?_); rintro e v3 ⟨aS, S, cS, rfl, hS, pS, oS, lS, j1⟩
         replace KJ := Lib.hid (KJ.out.trans j1)
         have hSn := keep3 KJ.out HS6.out)
      | fail)
  have HE3 := Lib.hid (show entC (fun q X Y => pAdd X Y q) J R (q : Int) = (tabM m.length m.length (fun i j => pAdd (idP i j) ⟨dd.opp, dd, false⟩ q), 0) from by
    obtain ⟨_, pJ, oJ⟩ := HJ.out
    obtain ⟨_, pR, oR⟩ := HR.out
    have hn := HN.out
    rw [entC_sq (vlM_tab pJ oJ hn hn) (vlM_tab pR oR hn hn) (tab_len pJ) (colsM_tab pJ hn.1) (tab_len pR) (colsM_tab pR hn.1) hq0 hq1]
    refine congrArg (fun m => (m, (0 : Int))) (tabM_congr fun i j hi hj => ?_)
    rw [atP_tab pJ hi hj, atP_tab pR hi hj, HY.out.2])
  rw [HE3.out]
  rw [HE3.out] at pS
  have HSS := Lib.hid (And.intro hS (And.intro pS oS))
  have HlS := Lib.hid lS
  have HV9 := Lib.hid (HV.out.kp (HK5.out.trans KJ.out))
  have HK9 := Lib.hid (HK5.out.trans KJ.out)
  clear hS pS oS lS j1 hSn hSd HE3 HAdd HJ2 HR HlR HJ HlJ
  go_wp2_with fail
  go_fit (mof_any b v d _ HV9.out hl2)
  rintro e w6 ⟨a6, U, c6, rfl, hU, pU, oU, lU, k6⟩
  have HS6 := Lib.hid (HSS.out.1.kp k6)
  have HK10 := Lib.hid (HK9.out.trans k6)
  have HMu := Lib.hid (mmul_any aS a6 S U cS c6 (q : Int) w6 HS6.out hU HlS.out lU (HT.out.kp HK10.out))
  have HE4 := Lib.hid (show mulC S U (q : Int) = (corF m v q dd, 0) from by
    obtain ⟨_, pS, oS⟩ := HSS.out
    have pU2 := (pU.trans (ofF_sq HS2.out)).trans (show tabM v.length v.length _ = tabM m.length m.length _ by rw [← HLN.out])
    have hn := HN.out
    rw [mulC_sq (vlM_tab pS oS hn hn) (vlM_tab pU2 oU hn hn) (tab_len pS) (colsM_tab pS hn.1) (tab_len pU2) (colsM_tab pU2 hn.1) hq0 hq1]
    unfold corF
    refine congrArg (fun m => (m, (0 : Int))) (tabM_congr fun i j hi hj => ?_)
    exact dotF_congr _ fun t ht => ⟨atP_tab pS hi (by omega), atP_tab pU2 (by omega) hj⟩)
  rw [HE4.out] at HMu
  clear hU pU oU lU k6 HE4 HSS
  go_wp2_with fail
  go_fit HMu.out
  rintro e w7 ⟨a7, X, c7, rfl, hX, pX, oX, lX, k7⟩
  have HX := Lib.hid (And.intro hX (And.intro pX (And.intro oX lX)))
  have HK11 := Lib.hid (HK10.out.trans k7)
  clear hX pX oX lX k7
  go_wp2_with fail
  rw [HE.out]
  refine bodyPost_ret (v := .tuple #[.slice a7 X.length c7, .int .i64 0]) (by simp [results, Tryz.results75, go_sem]) rfl ?_
  exact ⟨a7, X, c7, rfl, HX.out.1, HX.out.2.1, HX.out.2.2.1, HX.out.2.2.2, HK11.out⟩
end Go.Proofs.YtbhmhfnfceakoaaGreatDoor
