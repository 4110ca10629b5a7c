/-
  Walks: linear.square, Discs.
-/
import Derived.Deep.DeepFit
import Derived.Deep.LoopGhost
import Derived.Test.YtpocjagbhiahdaaGreatDoorMDscM
import Derived.Test.YtpocjagbhiahdaaGreatDoorMArdN
import Derived.Deep.CutRange
import Derived.Test.YtpocjagbhiahdaaGreatDoorMBoxG
import Derived.Test.YtpocjagbhiahdaaGreatDoorMIdxN
import Derived.Test.YtpocjagbhiahdaaGreatDoorMIdxI
import Derived.Test.YtpocjagbhiahdaaGreatDoorMRoA
import Derived.Test.YtpocjagbhiahdaaGreatDoorMIvM
import Derived.Test.YtpocjagbhiahdaaGreatDoorMNum
namespace Go.Proofs.YtpocjagbhiahdaaGreatDoor
open Go.RowKit
def sqM (m : List (List RI)) : Bool := vlM m && decide (m.length = colsM m)
set_option maxHeartbeats 2000000 in
theorem lsquare_any (m : List (List RI)) (a : Option Addr) (c : Nat) (w : World) (hm : RowM w a m) (hl : m.length ≤ 1100000) :
    Calls Tryz.prog 53 #[.slice a m.length c] w fun e w' => e = .returned (.bool (sqM m)) ∧ Kp w w' := by
  cases hv : vlM m with
  | false =>
    have H := Lib.hid (mvalid_any a m c w hm hl)
    rw [hv] at H
    have HE := Lib.hid (show sqM m = false by unfold sqM; rw [hv]; rfl)
    clear hm hv
    go_enter Tryz.func53, Tryz.ntmps53
    go_wp2_with fail
    go_fit H.out
    rintro e w1 ⟨rfl, k1⟩
    go_wp2_with fail
    go_ret
    exact ⟨ret_bool HE.out.symm, k1⟩
  | true =>
  obtain ⟨r0, hr0, hc0⟩ := vlM_row0 hv
  have H := Lib.hid (mvalid_any a m c w hm hl)
  rw [hv] at H
  have hml := (vlM_iff.1 hv).1
  obtain ⟨ba, oa, ra, rc, rfl, hrow, _⟩ := hm 0 r0 hr0
  rw [Nat.add_zero] at hrow
  have hi1 : (0 : Int) < (m.length : Int) := by omega
  have HE := Lib.hid (show sqM m = decide (m.length = r0.length) by unfold sqM; rw [hv, hc0]; rfl)
  have HW := Lib.hid hrow
  clear hm hv hr0 hc0 hml hrow
  go_enter Tryz.func53, Tryz.ntmps53
  go_wp2_with fail
  go_fit H.out
  rintro e w1 ⟨rfl, k1⟩
  have hrow := k1.cell HW.out
  go_wp2_with fail
  go_ret
  refine ⟨ret_bool ?_, k1⟩
  rw [HE.out, Bool.eq_iff_iff, beq_iff_eq, decide_eq_true_eq]
  omega
def DisE (w : World) (X : List PI) (f : Int) (e : Ending) (w' : World) : Prop :=
  ∃ (a : Option Addr) (Z : List RI) (c : Nat), e = .returned (.tuple #[.slice a Z.length c, .int .i64 f]) ∧ RowI w' a Z ∧ plR Z = X ∧ (∀ x ∈ Z, x.vl = true) ∧ Z.length ≤ 1100000 ∧ Kp w w'
theorem disE_nil {w w' : World} {f : Int} {e : Ending} (h : e = .returned (.tuple #[.slice none 0 0, .int .i64 f])) (k : Kp w w') : DisE w [] f e w' := ⟨none, [], 0, h, fun i x h => by simp at h, rfl, fun r h => by simp at h, by simp, k⟩
set_option maxRecDepth 100000 in
set_option maxHeartbeats 8000000 in
theorem ldiscs_any (m : List (List RI)) (a : Option Addr) (c : Nat) (p : Int) (w : World) (hm : RowM w a m) (hl : m.length ≤ 1100000) (hT : Tab w) :
    Calls Tryz.prog 12 #[.slice a m.length c, .int .i64 p] w (DisE w (dscC m p).1 (dscC m p).2) := by
  have HM := Lib.hid hm
  have HT := Lib.hid hT
  obtain ⟨D, hD⟩ : ∃ D, D = dscC m p := ⟨_, rfl⟩
  have HD := Lib.hid hD
  rw [← hD]
  clear hm hT hD
  go_enter Tryz.func12, Tryz.ntmps12
  go_wp2_with fail
  go_fit (lprecise_any p _)
  rintro e w3 ⟨rfl, rfl⟩
  cases hp : preB p with
  | false =>
    have HE := Lib.hid (show D = ([], 1) by rw [HD.out]; unfold dscC; rw [hp]; rfl)
    clear hp
    go_wp2_with fail
    rw [HE.out]
    refine bodyPost_ret (v := .tuple #[.slice none 0 0, .int .i64 1]) (by simp [results, Tryz.results12, go_sem]) rfl ?_
    exact disE_nil rfl (Kp.refl _)
  | true =>
  have HP := Lib.hid hp
  clear hp
  go_wp2_with fail
  go_fit (lsquare_any m a c _ HM.out hl)
  rintro e w1 ⟨rfl, k1⟩
  cases hs : sqM m with
  | false =>
    have HE := Lib.hid (show D = ([], 1) by
      rw [HD.out]; unfold dscC
      rw [HP.out, show (vlM m && decide (m.length = colsM m)) = false from hs]; rfl)
    clear hs
    go_wp2_with fail
    rw [HE.out]
    refine bodyPost_ret (v := .tuple #[.slice none 0 0, .int .i64 1]) (by simp [results, Tryz.results12, go_sem]) rfl ?_
    exact disE_nil rfl k1
  | true =>
  have hs' := hs
  unfold sqM at hs'
  rw [Bool.and_eq_true, decide_eq_true_eq] at hs'
  have HS := Lib.hid hs'
  have HVM := Lib.hid hs'.1
  obtain ⟨q, hq⟩ : ∃ q : Nat, q = p.toNat := ⟨_, rfl⟩
  have hpq : p = (q : Int) := by have := preB_iff.1 HP.out; omega
  have hq0 : 8 ≤ q := by have := preB_iff.1 HP.out; omega
  have hq1 : q ≤ 512 := by have := preB_iff.1 HP.out; omega
  obtain ⟨F, hF⟩ : ∃ F : Nat → PI, F = fun i => dscF q (plR (m.getD i [])) i := ⟨_, rfl⟩
  have HE := Lib.hid (show D = (rowF m.length F, 0) by
    rw [HD.out]; unfold dscC
    rw [HP.out, show (vlM m && decide (m.length = colsM m)) = true from hs, hF, hq]; rfl)
  have HF := Lib.hid hF
  have hml := (vlM_iff.1 HVM.out).1
  have HML := Lib.hid hml
  have HQ := Lib.hid hq
  have HK1 := Lib.hid k1
  rw [hpq]
  clear hs hs' hpq hq hF hml k1
  go_wp2_with fail
  go_loopg [6, 19] m.length (fun z v t wr => ∃ cur : List RI, cur.length + z = m.length ∧ t = .int .i64 (cur.length : Int) ∧ OwnN w1 wr v cur ∧ plR cur = rowF cur.length F ∧ ∀ x ∈ cur, x.vl = true)
  case atStart => exact ⟨[], by simp, rfl, OwnN.nil (Kp.refl _), rfl, fun x h => by simp at h⟩
  case round =>
  obtain ⟨cur, hcq, rfl, hown0, hpc, hvc⟩ := hrel
  have hk9 := hown0.1
  by_cases hlt : cur.length < m.length
  rotate_left
  · have hRe : cur.length = m.length := by omega
    obtain ⟨va, vc, rfl, hvc1, hvc2, hrm⟩ := hown0.value
    have HRe := Lib.hid (And.intro hRe (And.intro hrm (And.intro hpc hvc)))
    have HML8 := Lib.hid (show cur.length ≤ 1100000 by have := HML.out; omega)
    have HK9 := Lib.hid (HK1.out.trans hk9)
    clear hRe hcq hrm hpc hvc hown0 hk9
    go_wp2_with fail
    rw [HE.out]
    refine bodyPost_ret (v := .tuple #[.slice va cur.length vc, .int .i64 0]) (by simp [results, Tryz.results12, go_sem]) rfl ?_
    refine ⟨va, cur, vc, rfl, HRe.out.2.1, ?_, HRe.out.2.2.2, HML8.out, HK9.out⟩
    rw [HRe.out.2.2.1, HRe.out.1]
  obtain ⟨r, hr⟩ : ∃ r, m[cur.length]? = some r := ⟨_, List.getElem?_eq_getElem hlt⟩
  obtain ⟨b2, o2, ra2, rc2, rfl, hrc, hrow, hrl⟩ := HM.out cur.length r hr
  have hrcr := (HK1.out.trans hk9).cell hrc
  have HRW := Lib.hid (And.intro (hrow.kp (HK1.out.trans hk9)) (vlM_row HVM.out hr))
  have HG := Lib.hid (show dscF q (plR r) cur.length = F cur.length by
    rw [HF.out]
    show _ = dscF q (plR (m.getD cur.length [])) cur.length
    rw [List.getD_eq_getElem?_getD, hr]; rfl)
  have HPC := Lib.hid (And.intro hpc (And.intro hvc (And.intro hcq hlt)))
  have hk1 : (0 : Int) ≤ (cur.length : Int) := by omega
  have hk2 : (cur.length : Int) < (m.length : Int) := by omega
  have hcl : cur.length + 1 ≤ 9000000 := by omega
  have HOW := Lib.hid hown0
  have HRL := Lib.hid (show r.length = m.length by have := HRW.out.2.1; have := HS.out.2; omega)
  have HDI := Lib.hid (ldisc_any r ra2 rc2 cur.length q wr HRW.out.1 (by have := HRL.out; have := HML.out; omega) HRW.out.2.2 (by have := HRL.out; omega) hq0 hq1 (HT.out.kp (HK1.out.trans hk9)))
  clear hr hrc hrow hrl hpc hvc hcq hlt hown0 hk9
  go_wp2_with fail
  go_fit HDI.out
  rintro e v1 ⟨z, rfl, hz, hzp, hzv, j1⟩
  have hownA := HOW.out.kp (j1.alloc (.cells #[.bool z.lo.neg, .slice z.lo.a z.lo.xs.length z.lo.c, .int .i64 z.lo.e, .bool z.hi.neg, .slice z.hi.a z.hi.xs.length z.hi.c, .int .i64 z.hi.e, .bool z.all] 44))
  have hzA := hz.kp ((Kp.refl v1).alloc (.cells #[.bool z.lo.neg, .slice z.lo.a z.lo.xs.length z.lo.c, .int .i64 z.lo.e, .bool z.hi.neg, .slice z.hi.a z.hi.xs.length z.hi.c, .int .i64 z.hi.e, .bool z.all] 44))
  have ZP := Lib.hid (And.intro (hzp.trans HG.out) hzv)
  clear hz hzp hzv j1 hrcr
  go_wp2_with (at_builtin; refine wpList_append_ivg rfl _ _ rfl w1 _ cur rfl hownA _ _ rfl z hzA (by simp) hcl ?_; intro a' c' w9 hown9 hgrow hblk)
  go_roundg (gk - 1)
  case measure => have := HPC.out.2.2; omega
  case rel =>
  refine ⟨cur ++ [z], by have := HPC.out.2.2; rw [List.length_append, List.length_singleton]; omega, by rw [List.length_append, List.length_singleton]; go_num, by simpa using hown9, ?_, ok_snoc HPC.out.2.1 ZP.out.2⟩
  rw [plR_snoc, HPC.out.1, List.length_append, List.length_singleton, rowF_snoc, ZP.out.1]
theorem plM_22 {Z : List (List RI)} {A B C D : PI} (h : plM Z = [[A, B], [C, D]]) (oZ : okM Z) : ∃ a b c d : RI, Z = [[a, b], [c, d]] ∧ (a.pl = A ∧ b.pl = B ∧ c.pl = C ∧ d.pl = D) ∧ sqM Z = true := by
  have hT : plM Z = tabM 2 2 (fun i j => if i = 0 then (if j = 0 then A else B) else if j = 0 then C else D) := h
  have hs : sqM Z = true := by
    unfold sqM
    rw [vlM_tab hT oZ (by decide) (by decide), tab_len hT, colsM_tab hT (by decide)]; rfl
  match Z, h with
  | [[a, b], [c, d]], h =>
    simp only [plM, plR, List.map_cons, List.map_nil, List.cons.injEq, and_true] at h
    obtain ⟨⟨h1, h2⟩, h3, h4⟩ := h
    exact ⟨a, b, c, d, rfl, ⟨h1, h2, h3, h4⟩, hs⟩
  | [], h => simp [plM] at h
  | [x], h => simp [plM] at h
  | x :: y :: z :: t, h => simp [plM] at h
  | [[], y], h => simp [plM, plR] at h
  | [[a], y], h => simp [plM, plR] at h
  | [a :: b :: c :: t, y], h => simp [plM, plR] at h
  | [[a, b], []], h => simp [plM, plR] at h
  | [[a, b], [c]], h => simp [plM, plR] at h
  | [[a, b], c :: d :: e :: t], h => simp [plM, plR] at h
theorem exL_discs {Z : List (List RI)} (h : plM Z = intP [[-3, 1], [1, -2]]) (oZ : okM Z) : dscC Z 64 = ([pnI (-4) (-2), pnI (-3) (-1)], 0) := by
  obtain ⟨a, b, c, d, rfl, ⟨h1, h2, h3, h4⟩, hs⟩ := plM_22 (show plM Z = [[pnI (-3) (-3), pnI 1 1], [pnI 1 1, pnI (-2) (-2)]] from h) oZ
  unfold sqM at hs
  unfold dscC
  rw [hs, if_pos (by decide)]
  obtain ⟨e1, e2⟩ := exL_disc (r0 := plR [a, b]) (r1 := plR [c, d]) (by simp [plR, h1, h2]) (by simp [plR, h3, h4])
  show ([dscF 64 (plR [a, b]) 0, dscF 64 (plR [c, d]) 1], (0 : Int)) = _
  rw [e1, e2]
set_option maxRecDepth 100000 in
set_option maxHeartbeats 16000000 in
theorem awake8_any (w : World) (hT : Tab w) :
    Calls Tryz.prog 6 #[] w fun e w' => e = .returned (.bool true) ∧ Kp w w' := by
  have HT := Lib.hid hT
  clear hT
  go_enter Tryz.func6, Tryz.ntmps6
  go_upto_region 2 with fail
  have hA := rowZZ_two w 2 1 1 1
  have kA := (((Kp.refl w).alloc (.cells #[.int .i64 2, .int .i64 1] 3)).alloc (.cells #[.int .i64 1, .int .i64 1] 3)).alloc (.cells #[.slice (some ⟨w.heap.size, 0, none⟩) 2 2, .slice (some ⟨w.heap.size + 1, 0, none⟩) 2 2] 51)
  obtain ⟨W3, hW3⟩ : ∃ X, X = (((w.alloc (.cells #[.int .i64 2, .int .i64 1] 3)).alloc (.cells #[.int .i64 1, .int .i64 1] 3)).alloc (.cells #[.slice (some ⟨w.heap.size, 0, none⟩) 2 2, .slice (some ⟨w.heap.size + 1, 0, none⟩) 2 2] 51)) := ⟨_, rfl⟩
  have hsz : W3.heap.size = w.heap.size + 1 + 1 + 1 := by rw [hW3]; simp
  have hV := rowZZ_two W3 1 (-1) (-1) 2
  have kV := (((Kp.refl W3).alloc (.cells #[.int .i64 1, .int .i64 (-1)] 3)).alloc (.cells #[.int .i64 (-1), .int .i64 2] 3)).alloc (.cells #[.slice (some ⟨W3.heap.size, 0, none⟩) 2 2, .slice (some ⟨W3.heap.size + 1, 0, none⟩) 2 2] 51)
  rw [hsz] at hV kV
  rw [← hW3] at hA kA
  rw [← hW3]
  have HA := Lib.hid (hA.kp kV)
  have HV := Lib.hid hV
  have HK := Lib.hid (kA.trans kV)
  clear hA hV kA kV hW3 hsz
  generalize ((W3.alloc _).alloc _).alloc _ = W6 at *
  have HN1 := Lib.hid (show Calls Tryz.prog 23 #[.slice (some ⟨w.heap.size + 1 + 1, 0, none⟩) 2 2] W6 (NumV W6 (intM [[2, 1], [1, 1]])) from numbers8_any [[2, 1], [1, 1]] _ 2 W6 HA.out (by decide) (by decide))
  go_wp2_with fail
  go_fit HN1.out
  rintro e w1 ⟨a1, Z1, c1, rfl, hZ1, pZ1, vZ1, lZ1, k1⟩
  have HZ1 := Lib.hid (And.intro hZ1 (exN_of pZ1 vZ1))
  have HL1 := Lib.hid lZ1
  have HK1 := Lib.hid (HK.out.trans k1)
  have HV1 := Lib.hid (HV.out.kp k1)
  have HN2 := Lib.hid (show Calls Tryz.prog 23 #[.slice (some ⟨w.heap.size + 1 + 1 + 1 + 1 + 1, 0, none⟩) 2 2] w1 (NumV w1 (intM [[1, -1], [-1, 2]])) from numbers8_any [[1, -1], [-1, 2]] _ 2 w1 HV1.out (by decide) (by decide))
  clear hZ1 pZ1 vZ1 lZ1 k1 HN1 HA HV HK
  go_wp2_with fail
  go_fit HN2.out
  rintro e w2 ⟨a2, Z2, c2, rfl, hZ2, pZ2, vZ2, lZ2, k2⟩
  have HZ2 := Lib.hid (And.intro hZ2 (exN_of pZ2 vZ2))
  have HK2 := Lib.hid (HK1.out.trans k2)
  have HV2 := Lib.hid (HV1.out.kp k2)
  have HCo := Lib.hid (lcorrect_any Z1 Z2 a1 a2 c1 c2 64 w2 (HZ1.out.1.kp k2) hZ2 HL1.out lZ2 (HT.out.kp HK2.out))
  rw [exL_cor HZ1.out.2 HZ2.out.2] at HCo
  clear hZ2 pZ2 vZ2 lZ2 k2 HN2 HV1 HK1 HZ1 HZ2
  go_wp2_with fail
  go_fit HCo.out
  rintro e w3 ⟨a3, Z3, c3, rfl, hZ3, pZ3, oZ3, lZ3, k3⟩
  have HZ3 := Lib.hid (And.intro hZ3 (And.intro pZ3 oZ3))
  have HL3 := Lib.hid lZ3
  have HK3 := Lib.hid (HK2.out.trans k3)
  have HV3 := Lib.hid (HV2.out.kp k3)
  clear hZ3 pZ3 oZ3 lZ3 k3 HCo HV2 HK2
  have hD := rowZZ_two w3 (-3) 1 1 (-2)
  have kD := (((Kp.refl w3).alloc (.cells #[.int .i64 (-3), .int .i64 1] 3)).alloc (.cells #[.int .i64 1, .int .i64 (-2)] 3)).alloc (.cells #[.slice (some ⟨w3.heap.size, 0, none⟩) 2 2, .slice (some ⟨w3.heap.size + 1, 0, none⟩) 2 2] 51)
  have HPo := Lib.hid (show Calls Tryz.prog 17 #[.slice (some ⟨w3.heap.size + 1 + 1, 0, none⟩) 2 2] _ (MatV _ (intP [[-3, 1], [1, -2]])) from points8_any [[-3, 1], [1, -2]] 2 _ 2 _ hD (rectZ_two (by decide) (by decide) (by decide) (by decide)))
  have HKD := Lib.hid kD
  clear hD kD
  go_wp2_with fail
  go_fit HPo.out
  rintro e w4 ⟨a4, Z4, c4, rfl, hZ4, pZ4, oZ4, lZ4, k4⟩
  have HK4 := Lib.hid (HK3.out.trans (HKD.out.trans k4))
  have HV4 := Lib.hid (HV3.out.kp (HKD.out.trans k4))
  have HZ34 := Lib.hid (HZ3.out.1.kp (HKD.out.trans k4))
  have HDi := Lib.hid (ldiscs_any Z4 a4 c4 64 w4 hZ4 lZ4 (HT.out.kp HK4.out))
  rw [exL_discs pZ4 oZ4] at HDi
  clear hZ4 pZ4 oZ4 lZ4 k4 HPo HV3 HK3 HKD
  go_wp2_with fail
  go_fit HDi.out
  rintro e w5 ⟨a5, Z5, c5, rfl, hZ5, pZ5, vZ5, lZ5, k5⟩
  have HK5 := Lib.hid (HK4.out.trans k5)
  have HV5 := Lib.hid (HV4.out.kp k5)
  have HZ35 := Lib.hid (HZ34.out.kp k5)
  have HZ5 := Lib.hid (And.intro hZ5 (And.intro pZ5 vZ5))
  have HL5 := Lib.hid lZ5
  have HPo := Lib.hid (show Calls Tryz.prog 17 #[.slice (some ⟨w.heap.size + 1 + 1 + 1 + 1 + 1, 0, none⟩) 2 2] w5 (MatV w5 (intP [[1, -1], [-1, 2]])) from points8_any [[1, -1], [-1, 2]] 2 _ 2 _ HV5.out (rectZ_two (by decide) (by decide) (by decide) (by decide)))
  clear hZ5 pZ5 vZ5 lZ5 k5 HDi HV4 HK4 HZ34
  go_wp2_with fail
  go_fit HPo.out
  rintro e w6 ⟨a6, Z6, c6, rfl, hZ6, pZ6, oZ6, lZ6, k6⟩
  have HEq := Lib.hid (equal8_any Z3 Z6 a3 a6 c3 c6 w6 (HZ35.out.kp k6) hZ6 HL3.out)
  rw [eqM8_pl (HZ35.out.kp k6) hZ6 HZ3.out.2.2 oZ6 (HZ3.out.2.1.trans pZ6.symm)] at HEq
  have HK6 := Lib.hid (HK5.out.trans k6)
  have HZ56 := Lib.hid (HZ5.out.1.kp k6)
  clear hZ6 pZ6 oZ6 lZ6 k6 HPo HV5 HK5 HZ35
  go_wp2_with fail
  go_fit HEq.out
  rintro e w7 ⟨rfl, k7⟩
  have HK7 := Lib.hid (HK6.out.trans k7)
  have HZ57 := Lib.hid (HZ56.out.kp k7)
  clear k7 HEq HK6 HZ56
  go_wp2_with fail
  go_fit (d8_any (-4) _ (by decide))
  rintro e v1 ⟨y1, rfl, oy1, dy1, j1⟩
  replace HK7 := Lib.hid (HK7.out.trans j1)
  replace HZ57 := Lib.hid (HZ57.out.kp j1)
  have H1 := Lib.hid (And.intro oy1 dy1)
  clear oy1 dy1 j1
  go_wp2_with fail
  go_fit (d8_any (-2) _ (by decide))
  rintro e v2 ⟨y2, rfl, oy2, dy2, j2⟩
  replace HK7 := Lib.hid (HK7.out.trans j2)
  replace HZ57 := Lib.hid (HZ57.out.kp j2)
  replace H1 := Lib.hid (And.intro (H1.out.1.kp j2) H1.out.2)
  have H2 := Lib.hid (And.intro oy2 dy2)
  clear oy2 dy2 j2
  go_wp2_with fail
  go_fit (d8_any (-3) _ (by decide))
  rintro e v3 ⟨y3, rfl, oy3, dy3, j3⟩
  replace HK7 := Lib.hid (HK7.out.trans j3)
  replace HZ57 := Lib.hid (HZ57.out.kp j3)
  replace H1 := Lib.hid (And.intro (H1.out.1.kp j3) H1.out.2)
  replace H2 := Lib.hid (And.intro (H2.out.1.kp j3) H2.out.2)
  have H3 := Lib.hid (And.intro oy3 dy3)
  clear oy3 dy3 j3
  go_wp2_with fail
  go_fit (d8_any (-1) _ (by decide))
  rintro e v4 ⟨y4, rfl, oy4, dy4, j4⟩
  replace HK7 := Lib.hid (HK7.out.trans j4)
  replace HZ57 := Lib.hid (HZ57.out.kp j4)
  replace H1 := Lib.hid (And.intro (H1.out.1.kp j4) H1.out.2)
  replace H2 := Lib.hid (And.intro (H2.out.1.kp j4) H2.out.2)
  replace H3 := Lib.hid (And.intro (H3.out.1.kp j4) H3.out.2)
  have kE := (Kp.refl v4).alloc (.cells #[.bool (RI.mk y1 y2 false).lo.neg, .slice (RI.mk y1 y2 false).lo.a (RI.mk y1 y2 false).lo.xs.length (RI.mk y1 y2 false).lo.c, .int .i64 (RI.mk y1 y2 false).lo.e, .bool (RI.mk y1 y2 false).hi.neg, .slice (RI.mk y1 y2 false).hi.a (RI.mk y1 y2 false).hi.xs.length (RI.mk y1 y2 false).hi.c, .int .i64 (RI.mk y1 y2 false).hi.e, .bool (RI.mk y1 y2 false).all, .bool (RI.mk y3 y4 false).lo.neg, .slice (RI.mk y3 y4 false).lo.a (RI.mk y3 y4 false).lo.xs.length (RI.mk y3 y4 false).lo.c, .int .i64 (RI.mk y3 y4 false).lo.e, .bool (RI.mk y3 y4 false).hi.neg, .slice (RI.mk y3 y4 false).hi.a (RI.mk y3 y4 false).hi.xs.length (RI.mk y3 y4 false).hi.c, .int .i64 (RI.mk y3 y4 false).hi.e, .bool (RI.mk y3 y4 false).all] 44)
  have hE := rowI_twoR v4 ⟨y1, y2, false⟩ ⟨y3, y4, false⟩ ⟨H1.out.1.1, H2.out.1.1⟩ ⟨H3.out.1.1, oy4.1⟩ 44
  have HQ := Lib.hid (show Calls Tryz.prog 14 #[.slice a5 Z5.length c5, .slice (some ⟨v4.heap.size, 0, none⟩) 2 2, .func (.func 15) #[] #[]] _ _ from eqrow8_any Z5 [⟨y1, y2, false⟩, ⟨y3, y4, false⟩] a5 _ c5 2 _ (HZ57.out.kp kE) hE HL5.out)
  rw [eqR8_pl (HZ57.out.kp kE) hE HZ5.out.2.2 (fun z hz => by
    simp only [List.mem_cons, List.not_mem_nil, or_false] at hz
    rcases hz with rfl | rfl
    · exact vl_int H1.out.1 H2.out.1 H1.out.2 H2.out.2 (by decide)
    · exact vl_int H3.out.1 oy4 H3.out.2 dy4 (by decide)) (HZ5.out.2.1.trans (by
    show _ = [RI.pl ⟨y1, y2, false⟩, RI.pl ⟨y3, y4, false⟩]
    rw [pl_int H1.out.2 H2.out.2, pl_int H3.out.2 dy4]))] at HQ
  have HKE := Lib.hid (HK7.out.trans kE)
  clear hE kE oy4 dy4 j4
  go_wp2_with fail
  go_fit HQ.out
  rintro e v5 ⟨rfl, k5⟩
  go_wp2_with fail
  go_ret
  exact ⟨rfl, HKE.out.trans k5⟩
def lng8 (x : RD) : Bool := decide (20 < x.xs.length)
def wid8 (x : RI) : Bool := lng8 x.lo || lng8 x.hi
def widR8 (r : List RI) : Bool := decide (8 < r.length) || r.any wid8
def widM8 (m : List (List RI)) : Bool := decide (8 < m.length) || m.any widR8
def grtR8 (r : List RD) : Bool := decide (8 < r.length) || r.any lng8
def grtM8 (m : List (List RD)) : Bool := decide (8 < m.length) || m.any grtR8
theorem long8_any (x : RD) (w : World) :
    Calls Tryz.prog 27 #[.agg #[.bool x.neg, .slice x.a x.xs.length x.c, .int .i64 x.e]] w fun e w' => e = .returned (.bool (lng8 x)) ∧ Kp w w' := by
  have H := Lib.hid (show lng8 x = decide (20 < (x.xs.length : Int)) by unfold lng8; congr 1; exact propext ⟨fun h => by omega, fun h => by omega⟩)
  go_enter Tryz.func27, Tryz.ntmps27
  go_wp2_with fail
  go_ret
  exact ⟨ret_bool H.out.symm, (Kp.refl w).alloc _⟩
set_option maxHeartbeats 1000000 in
theorem wide81_any (x : RI) (w : World) :
    Calls Tryz.prog 52 #[.agg #[.bool x.lo.neg, .slice x.lo.a x.lo.xs.length x.lo.c, .int .i64 x.lo.e, .bool x.hi.neg, .slice x.hi.a x.hi.xs.length x.hi.c, .int .i64 x.hi.e, .bool x.all]] w fun e w' => e = .returned (.bool (wid8 x)) ∧ Kp w w' := by
  have k1 := (Kp.refl w).alloc (.cells #[.bool x.lo.neg, .slice x.lo.a x.lo.xs.length x.lo.c, .int .i64 x.lo.e, .bool x.hi.neg, .slice x.hi.a x.hi.xs.length x.hi.c, .int .i64 x.hi.e, .bool x.all] 44)
  go_enter Tryz.func52, Tryz.ntmps52
  go_upto_region 1 with fail
  generalize hW : w.alloc _ = W at *
  have hS : W.cell? ⟨w.heap.size, 0, none⟩ = some (.bool x.lo.neg) ∧ W.cell? ⟨w.heap.size, 1, none⟩ = some (.slice x.lo.a x.lo.xs.length x.lo.c) ∧ W.cell? ⟨w.heap.size, 2, none⟩ = some (.int .i64 x.lo.e) ∧ W.cell? ⟨w.heap.size, 3, none⟩ = some (.bool x.hi.neg) ∧ W.cell? ⟨w.heap.size, 4, none⟩ = some (.slice x.hi.a x.hi.xs.length x.hi.c) ∧ W.cell? ⟨w.heap.size, 5, none⟩ = some (.int .i64 x.hi.e) ∧ W.cell? ⟨w.heap.size, 6, none⟩ = some (.bool x.all) := by rw [← hW]; simp
  clear hW
  obtain ⟨s0, s1, s2, s3, s4, s5, s6⟩ := id hS
  go_wp2_with fail
  go_fit (long8_any x.lo _)
  rintro e w1 ⟨rfl, k2⟩
  clear s0 s1 s2 s3 s4 s5 s6
  cases h : lng8 x.lo with
  | true =>
    have H := Lib.hid (show wid8 x = true by unfold wid8; rw [h]; rfl)
    clear h
    go_wp2_with fail
    go_ret
    exact ⟨ret_bool H.out.symm, k1.trans k2⟩
  | false =>
  have H := Lib.hid (show wid8 x = lng8 x.hi by unfold wid8; rw [h]; rfl)
  clear h
  obtain ⟨s0, s1, s2, s3, s4, s5, s6⟩ := keep7 k2 hS
  go_wp2_with fail
  go_fit (long8_any x.hi _)
  rintro e w3 ⟨rfl, k3⟩
  go_wp2_with fail
  go_ret
  exact ⟨ret_bool H.out.symm, k1.trans (k2.trans k3)⟩
theorem wideR8_any (l : List RI) (a : Option Addr) (c : Nat) (w : World) (hr : RowI w a l) (hl : l.length ≤ 1100000) :
    Calls Tryz.prog 51 #[.slice a l.length c] w fun e w' => e = .returned (.bool (widR8 l)) ∧ Kp w w' := by
  have hp : AnsI Tryz.prog 52 #[] w l wid8 := ⟨fun _ _ => by kernel_rfl, fun x _ w1 _ => wide81_any x w1⟩
  have HC := Lib.hid (containsI a l c _ _ w _ hl hr hp)
  clear hp hr
  by_cases h : 8 < l.length
  · have H := Lib.hid (show widR8 l = true by unfold widR8; rw [decide_eq_true h]; rfl)
    have g : (8 : Int) < (l.length : Int) := by omega
    clear h
    go_enter Tryz.func51, Tryz.ntmps51
    go_wp2_with fail
    go_ret
    exact ⟨ret_bool H.out.symm, .refl _⟩
  have H := Lib.hid (show widR8 l = l.any wid8 by unfold widR8; rw [decide_eq_false h]; rfl)
  have g : ¬ (8 : Int) < (l.length : Int) := by omega
  clear h
  go_enter Tryz.func51, Tryz.ntmps51
  go_wp2_with fail
  go_fit HC.out
  rintro e w1 ⟨rfl, k1⟩
  go_wp2_with fail
  go_ret
  exact ⟨ret_bool H.out.symm, k1⟩
theorem wideM8_any (l : List (List RI)) (a : Option Addr) (c : Nat) (w : World) (hr : RowM w a l) (hl : l.length ≤ 1100000) :
    Calls Tryz.prog 11 #[.slice a l.length c] w fun e w' => e = .returned (.bool (widM8 l)) ∧ Kp w w' := by
  have hp : AnsR Tryz.prog 51 #[] w l widR8 := ⟨fun _ _ => by kernel_rfl, fun x _ a c w1 _ h => wideR8_any x a c w1 h.1 h.2⟩
  have HC := Lib.hid (containsR a l c _ _ w _ hl hr hp)
  clear hp hr
  by_cases h : 8 < l.length
  · have H := Lib.hid (show widM8 l = true by unfold widM8; rw [decide_eq_true h]; rfl)
    have g : (8 : Int) < (l.length : Int) := by omega
    clear h
    go_enter Tryz.func11, Tryz.ntmps11
    go_wp2_with fail
    go_ret
    exact ⟨ret_bool H.out.symm, .refl _⟩
  have H := Lib.hid (show widM8 l = l.any widR8 by unfold widM8; rw [decide_eq_false h]; rfl)
  have g : ¬ (8 : Int) < (l.length : Int) := by omega
  clear h
  go_enter Tryz.func11, Tryz.ntmps11
  go_wp2_with fail
  go_fit HC.out
  rintro e w1 ⟨rfl, k1⟩
  go_wp2_with fail
  go_ret
  exact ⟨ret_bool H.out.symm, k1⟩
theorem greatR8_any (l : List RD) (a : Option Addr) (c : Nat) (w : World) (hr : RowD w a l) (hl : l.length ≤ 1100000) :
    Calls Tryz.prog 25 #[.slice a l.length c] w fun e w' => e = .returned (.bool (grtR8 l)) ∧ Kp w w' := by
  have hp : AnsD Tryz.prog 27 #[] w l lng8 := ⟨fun _ _ => by kernel_rfl, fun x _ w1 _ => long8_any x w1⟩
  have HC := Lib.hid (containsD a l c _ _ w _ hl hr hp)
  clear hp hr
  by_cases h : 8 < l.length
  · have H := Lib.hid (show grtR8 l = true by unfold grtR8; rw [decide_eq_true h]; rfl)
    have g : (8 : Int) < (l.length : Int) := by omega
    clear h
    go_enter Tryz.func25, Tryz.ntmps25
    go_wp2_with fail
    go_ret
    exact ⟨ret_bool H.out.symm, .refl _⟩
  have H := Lib.hid (show grtR8 l = l.any lng8 by unfold grtR8; rw [decide_eq_false h]; rfl)
  have g : ¬ (8 : Int) < (l.length : Int) := by omega
  clear h
  go_enter Tryz.func25, Tryz.ntmps25
  go_wp2_with fail
  go_fit HC.out
  rintro e w1 ⟨rfl, k1⟩
  go_wp2_with fail
  go_ret
  exact ⟨ret_bool H.out.symm, k1⟩
theorem greatM8_any (l : List (List RD)) (a : Option Addr) (c : Nat) (w : World) (hr : RowN w a l) (hl : l.length ≤ 1100000) :
    Calls Tryz.prog 7 #[.slice a l.length c] w fun e w' => e = .returned (.bool (grtM8 l)) ∧ Kp w w' := by
  have hp : AnsN Tryz.prog 25 #[] w l grtR8 := ⟨fun _ _ => by kernel_rfl, fun x _ a c w1 _ h => greatR8_any x a c w1 h.1 h.2⟩
  have HC := Lib.hid (containsN a l c _ _ w _ hl hr hp)
  clear hp hr
  by_cases h : 8 < l.length
  · have H := Lib.hid (show grtM8 l = true by unfold grtM8; rw [decide_eq_true h]; rfl)
    have g : (8 : Int) < (l.length : Int) := by omega
    clear h
    go_enter Tryz.func7, Tryz.ntmps7
    go_wp2_with fail
    go_ret
    exact ⟨ret_bool H.out.symm, .refl _⟩
  have H := Lib.hid (show grtM8 l = l.any grtR8 by unfold grtM8; rw [decide_eq_false h]; rfl)
  have g : ¬ (8 : Int) < (l.length : Int) := by omega
  clear h
  go_enter Tryz.func7, Tryz.ntmps7
  go_wp2_with fail
  go_fit HC.out
  rintro e w1 ⟨rfl, k1⟩
  go_wp2_with fail
  go_ret
  exact ⟨ret_bool H.out.symm, k1⟩
set_option maxHeartbeats 1000000 in
theorem r1trim_any (a : Option Addr) (xs : List Nat) (c : Nat) (w : World) (h : Rd w a xs) (hc : xs.length ≤ c) (hm : c ≤ maxLen) (hl : xs.length ≤ 1100000) :
    Calls Tryz.prog 142 #[.slice a xs.length c] w (NatOut w (val xs)) := by
  have hm' := hm
  unfold maxLen at hm
  have hll := limbs_len_le h.lt32
  go_enter Tryz.func142, Tryz.ntmps142
  go_wp2
  go_loop [3] (fun x => ∃ n : Nat, n ≤ xs.length ∧ x = .int .i64 n ∧ ∀ i, n ≤ i → i < xs.length → nth xs i = 0) (fun x => (intOf x).toNat)
  case atStart => exact ⟨xs.length, Nat.le_refl _, rfl, fun i h1 h2 => by omega⟩
  case round =>
  obtain ⟨n, hn, rfl, hz⟩ := hrel
  have Hz := Lib.hid hz; clear hz
  by_cases h0 : n = 0
  · have htop := trim_top h.lt32 hn Hz.out (by omega)
    have hlen : (limbs (val xs)).length = n := by rw [← htop, List.length_take, Nat.min_eq_left hn]
    have hr := h.limbs.kp ((Kp.refl w).alloc (.cells #[] 103))
    have Hlen := Lib.hid hlen
    clear htop hlen
    subst h0
    go_wp2_with (at_builtin; refine wpList_append_u32s rfl _ _ rfl w.heap.size _ [] rfl (Own.empty w _ (Nat.le_refl _)) a (limbs (val xs)) c (by rw [Hlen.out]; rfl) hr (by simp; omega) (by simp) ?_; intro a2 c2 w2 hown2 hb2)
    go_ret
    obtain ⟨h5, h6, h7, h8⟩ := hown2.rd
    rw [List.nil_append] at h6 h8
    exact ⟨a2, c2, by simp, h6, h7, h8, ((Kp.refl w).alloc _).below.trans hb2⟩
  obtain ⟨b, o, rfl, hcell⟩ := h.some (i := n - 1) (by omega)
  have hk := hcell (n - 1) (by omega)
  clear hcell
  by_cases hx : nth xs (n - 1) = 0
  · have hx2 : ((nth xs (n - 1) : Int) == 0) = true := by simp [hx]
    have Hx := Lib.hid hx; clear hx
    go_wp2
    go_round
    case measure => simp [intOf]; omega
    case rel =>
    refine ⟨n - 1, by omega, by congr 1; omega, fun i h1 h2 => ?_⟩
    by_cases hi : i = n - 1
    · rw [hi]; exact Hx.out
    exact Hz.out i (by omega) h2
  have hx2 : ((nth xs (n - 1) : Int) == 0) = false := by simp; omega
  have htop := trim_top h.lt32 hn Hz.out (fun _ => hx)
  have hlen : (limbs (val xs)).length = n := by rw [← htop, List.length_take, Nat.min_eq_left hn]
  have hr := h.limbs.kp ((Kp.refl w).alloc (.cells #[] 103))
  have Hlen := Lib.hid hlen
  clear htop hlen
  go_wp2_with (at_builtin; refine wpList_append_u32s rfl _ _ rfl w.heap.size _ [] rfl (Own.empty w _ (Nat.le_refl _)) (some ⟨b, o, none⟩) (limbs (val xs)) c (by rw [Hlen.out]; rfl) hr (by simp; omega) (by simp) ?_; intro a2 c2 w2 hown2 hb2)
  go_ret
  obtain ⟨h5, h6, h7, h8⟩ := hown2.rd
  rw [List.nil_append] at h6 h8
  exact ⟨a2, c2, by simp, h6, h7, h8, ((Kp.refl w).alloc _).below.trans hb2⟩
theorem r1at_any (a : Option Addr) (xs : List Nat) (c i : Nat) (w : World) (h : Rd w a xs) :
    Calls Tryz.prog 144 #[.slice a xs.length c, .int .i64 (i : Nat)] w fun e w' => e = .returned (.int .u64 (nth xs i : Nat)) ∧ w = w' := by
  by_cases hi : i < xs.length
  rotate_left
  · have H0 := Lib.hid (nth_ge (xs := xs) (i := i) (by omega))
    have hi1 : ¬ (i : Int) < (xs.length : Int) := by omega
    clear hi
    go_enter Tryz.func144, Tryz.ntmps144
    go_wp2_with fail
    go_ret
    exact ⟨by rw [H0.out]; rfl, rfl⟩
  obtain ⟨b, o, rfl, hc⟩ := h.some hi
  have hx := hc i hi
  have hb := h.lt32.nth i
  have hi0 : (0 : Int) ≤ (i : Int) := by omega
  have hi1 : (i : Int) < (xs.length : Int) := by omega
  clear hc
  go_enter Tryz.func144, Tryz.ntmps144
  go_wp2_with fail
  go_ret
  exact ⟨rfl, rfl⟩
theorem bits_at {xs : List Nat} {n : Nat} (h : Lt32 xs) (hn : n < xs.length) (hz : ∀ i, n + 1 ≤ i → i < xs.length → nth xs i = 0) (h0 : nth xs n ≠ 0) : bits (val xs) = 32 * n + bits (nth xs n) := by
  have ht := trim_top h (show n + 1 ≤ xs.length from hn) hz (fun _ => h0)
  have hlen : (limbs (val xs)).length = n + 1 := by rw [← ht, List.length_take, Nat.min_eq_left hn]
  have hv : val xs ≠ 0 := fun k => by rw [k, limbs_zero] at hlen; cases hlen
  obtain ⟨hb, _⟩ := bits_top hv
  rw [hlen, Nat.add_sub_cancel, ← ht] at hb
  rw [hb]
  congr 2
  rw [nth_eq (by rw [List.length_take]; omega), nth_eq hn, List.getElem_take]
theorem val_zero_of {xs : List Nat} (h : Lt32 xs) (hz : ∀ i, 0 ≤ i → i < xs.length → nth xs i = 0) : val xs = 0 := by
  have ht := trim_top h (Nat.zero_le xs.length) hz (fun k => absurd k (by omega))
  rw [List.take_zero] at ht
  have := val_limbs (val xs)
  rw [← ht] at this
  exact this.symm
set_option maxHeartbeats 2000000 in
theorem r1bits_any (a : Option Addr) (xs : List Nat) (c : Nat) (w : World) (h : Rd w a xs) (hl : xs.length ≤ 1100000) :
    Calls Tryz.prog 100 #[.slice a xs.length c] w fun e w' => e = .returned (.int .i64 (bits (val xs))) ∧ w = w' := by
  go_enter Tryz.func100, Tryz.ntmps100
  go_wp2_with fail
  go_loop [3] (fun x => ∃ n : Nat, n ≤ xs.length ∧ x = .int .i64 ((n : Int) - 1) ∧ ∀ i, n ≤ i → i < xs.length → nth xs i = 0) (fun x => (intOf x + 1).toNat)
  case atStart => exact ⟨xs.length, Nat.le_refl _, rfl, fun i h1 h2 => by omega⟩
  case round =>
  obtain ⟨n, hn, rfl, hz⟩ := hrel
  have Hz := Lib.hid hz; clear hz
  rcases n with _ | k
  · rw [show (((0 : Nat) : Int) - 1) = -1 from rfl]
    have HB := Lib.hid (show bits (val xs) = 0 by rw [val_zero_of h.lt32 Hz.out, bits_zero])
    go_wp2_with fail
    go_ret
    rw [HB.out]
    exact ⟨rfl, rfl⟩
  rw [show (((k + 1 : Nat) : Int) - 1) = (k : Int) from by omega]
  obtain ⟨b, o, rfl, hcell⟩ := h.some (i := k) (by omega)
  have hx := hcell k (by omega)
  have hnt := h.lt32.nth k
  clear hcell
  by_cases h0 : nth xs k = 0
  · have hx2 : ((nth xs k : Int) != 0) = false := by simp [h0]
    have H0 := Lib.hid h0
    clear h0
    go_wp2_with fail
    go_round
    case measure => simp [intOf]
    case rel =>
    refine ⟨k, by omega, rfl, fun i h1 h2 => ?_⟩
    by_cases hi : i = k
    · rw [hi]; exact H0.out
    exact Hz.out i (by omega) h2
  have hx2 : ((nth xs k : Int) != 0) = true := by simp [h0]
  have HB := Lib.hid (bits_at h.lt32 (show k < xs.length by omega) Hz.out h0)
  have hbt : bits (nth xs k) ≤ 32 := bits_le.2 hnt
  clear h0
  go_wp2_with fail
  go_loop [4, 5] (fun v x => ∃ (y j : Nat), x = .int .u32 y ∧ v = .int .i64 ((32 * k + j : Nat) : Int) ∧ j + bits y = bits (nth xs k) ∧ y < 4294967296) (fun _ x => (intOf x).toNat)
  case atStart => exact ⟨nth xs k, 0, rfl, by congr 1 <;> omega, by omega, hnt⟩
  case round =>
  obtain ⟨y, j, rfl, rfl, hj, hy⟩ := hrel
  by_cases hy0 : y = 0
  · subst hy0
    rw [bits_zero] at hj
    have HB2 := Lib.hid (show bits (val xs) = 32 * k + j by rw [HB.out]; omega)
    go_wp2_with fail
    go_ret
    rw [HB2.out]
    exact ⟨rfl, rfl⟩
  have h2 := bits_half hy0
  have h3 : 0 < y := by omega
  go_wp2_with fail
  go_round
  case measure => simp [intOf]; omega
  case rel => exact ⟨y / 2, j + 1, by go_num, by congr 1 <;> omega, by omega, by omega⟩
theorem r1at_int (a : Option Addr) (xs : List Nat) (c : Nat) (j : Int) (i : Nat) (w : World) (h : Rd w a xs) (hj : j = i) :
    Calls Tryz.prog 144 #[.slice a xs.length c, .int .i64 j] w fun e w' => e = .returned (.int .u64 (nth xs i : Nat)) ∧ w = w' := by
  subst hj; exact r1at_any a xs c i w h
theorem nth_drp (xs : List Nat) (q k : Nat) : nth (xs.drop q) k = nth xs (q + k) := by
  unfold nth; rw [List.getD_eq_getElem?_getD, List.getD_eq_getElem?_getD, List.getElem?_drop]
theorem val_drop (xs : List Nat) (q : Nat) (h : Lt32 xs) : val (xs.drop q) = val xs / 4294967296 ^ q := by
  by_cases hq : q ≤ xs.length
  · have e := val_take_drop xs q hq
    have b := val_lt (h.take q)
    rw [List.length_take, Nat.min_eq_left hq] at b
    rw [e, Nat.add_mul_div_left _ _ (Nat.pow_pos (by decide)), Nat.div_eq_of_lt b, Nat.zero_add]
  rw [List.drop_of_length_le (by omega), Nat.div_eq_of_lt]
  · rfl
  exact Nat.lt_of_lt_of_le (val_lt h) (Nat.pow_le_pow_right (by decide) (by omega))
set_option maxHeartbeats 2000000 in
set_option maxRecDepth 100000 in
theorem r1shr_any (a : Option Addr) (xs : List Nat) (c n : Nat) (w : World) (h1 : Rd w a xs) (hxl : xs.length ≤ 1000000) (hn : n ≤ 40000000) :
    Calls Tryz.prog 145 #[.slice a xs.length c, .int .i64 (n : Nat)] w (NatOut w (val xs / 2 ^ n)) := by
  have hfin : val xs / 2 ^ n = val (xs.drop (n / 32)) / 2 ^ (n % 32) := by rw [val_drop _ _ h1.lt32, Nat.div_div_eq_div_mul, pow_split]
  rw [hfin]
  clear hfin
  have hvl : (xs.drop (n / 32)).length = xs.length - n / 32 := List.length_drop
  have hnth := nth_drp xs (n / 32)
  have hv32 : Lt32 (xs.drop (n / 32)) := h1.lt32.drop _
  generalize xs.drop (n / 32) = vs at *
  have hr : n % 32 < 32 := Nat.mod_lt _ (by decide)
  have Hvl := Lib.hid hvl
  have Hnth := Lib.hid hnth
  have H32 := Lib.hid hv32
  clear hvl hnth hv32
  go_enter Tryz.func145, Tryz.ntmps145
  go_wp2_with fail
  go_loopw [5, 6] (fun v ix wr => ∃ (k : Nat) (zs : List Nat), k ≤ xs.length - n / 32 ∧ ix = .int .i64 ((n / 32 + k : Nat) : Int) ∧ zs.length = k ∧ Own wr w.heap.size v zs ∧
    val zs * 2 ^ (n % 32) + nth vs 0 % 2 ^ (n % 32) = val (vs.take k) + 4294967296 ^ k * (nth vs k % 2 ^ (n % 32)) ∧ Kp w wr) (fun _ ix _ => xs.length - (intOf ix).toNat)
  case atStart => exact ⟨0, [], Nat.zero_le _, by go_num, rfl, Own.nil _ _, by simp [val], .refl _⟩
  case round =>
  obtain ⟨k, zs, hk, rfl, hzl, hown, hvz, hkp⟩ := hrel
  have Hvz := Lib.hid hvz
  have Hzl := Lib.hid hzl
  have hzl2 : zs.length + 1 ≤ 9000000 := by omega
  clear hvz
  by_cases hlt : n / 32 + k < xs.length
  · have bx := h1.lt32.nth (n / 32 + k)
    have bx2 := h1.lt32.nth (n / 32 + k + 1)
    have Hst := Lib.hid (fun z => right_step (z := z) Hzl.out Hvz.out)
    have Hl := Lib.hid (shr_limb (y := nth xs (n / 32 + k + 1)) bx hr)
    have hcl := Lib.hid (show Go.bits BinOp.and IntKind.u64 (((nth xs (n / 32 + k) : Int) + (nth xs (n / 32 + k + 1) : Int) * 4294967296) / 2 ^ (n % 32)) 4294967295 % 4294967296 = (((nth xs (n / 32 + k) + 4294967296 * nth xs (n / 32 + k + 1)) / 2 ^ (n % 32) % 4294967296 : Nat) : Int) by
      have := cell_low (r := n % 32) bx bx2
      rwa [Int.mul_comm 4294967296] at this)
    clear hzl
    go_wp2_with fail
    refine (r1at_int a xs c _ (n / 32 + k) _ (h1.kp hkp) (by omega)).mono ?_
    rintro e w1 ⟨rfl, rfl⟩
    go_wp2_with fail
    refine (r1at_int a xs c _ (n / 32 + k + 1) _ (h1.kp hkp) (by omega)).mono ?_
    rintro e w1 ⟨rfl, rfl⟩
    go_wp2_with (at_builtin; refine wpList_append_u32 rfl _ _ rfl w.heap.size _ _ rfl (hown.alloc _) _ _ rfl (World.cell?_alloc_new _ _ _ _) ((nth xs (n / 32 + k) + 4294967296 * nth xs (n / 32 + k + 1)) / 2 ^ (n % 32) % 4294967296) hcl.out (Nat.mod_lt _ (by decide)) hzl2 (by have := hkp.size; simp; omega) ?_; intro a2 c2 w2 hown2 hb2)
    go_roundw
    case measure => simp [intOf]; omega
    case rel => exact ⟨k + 1, _, by omega, by go_num, by simp [Hzl.out], hown2, Hst.out _ (by rw [Hnth.out, Hnth.out]; exact Hl.out), (hkp.alloc _).below.trans hb2⟩
  have e2 := Hvz.out
  have h0 : nth vs k = 0 := nth_ge (by rw [Hvl.out]; omega)
  rw [h0, Nat.zero_mod, Nat.mul_zero, Nat.add_zero, List.take_of_length_le (by rw [Hvl.out]; omega)] at e2
  have hlt3 := Nat.mod_lt (nth vs 0) (two_pow_pos (n % 32))
  have e3 : val zs = val vs / 2 ^ (n % 32) := by
    rw [← e2, Nat.mul_comm, Nat.mul_add_div (two_pow_pos _), Nat.div_eq_of_lt hlt3, Nat.add_zero]
  obtain ⟨a5, c5, e5, l5, m5, r5⟩ := hown.value
  subst e5
  have E3 := Lib.hid e3
  have hT := Lib.hid (r1trim_any a5 zs c5 wr r5 l5 m5 (by have := Hzl.out; omega))
  have hkk := Lib.hid hkp
  clear e2 e3 h0 hlt3 hkp hown hzl
  go_wp2_with fail
  refine hT.out.mono ?_
  rintro e w7 ⟨a6, c6, rfl, l6, m6, r6, k6⟩
  go_wp2_with fail
  go_ret
  rw [← E3.out]
  exact ⟨a6, c6, rfl, l6, m6, r6, hkk.out.trans k6⟩
theorem lshl_step {zs : List Nat} {j x r : Nat} (hj : j + 1 < zs.length) (h0 : nth zs (j + 1) = 0) :
    val ((zs.set j (nth zs j + x * 2 ^ r % 4294967296)).set (j + 1) (x * 2 ^ r / 4294967296)) = val zs + 4294967296 ^ j * (x * 2 ^ r) := by
  have h1 := val_set (xs := zs) (i := j) (x := nth zs j + x * 2 ^ r % 4294967296) (by omega)
  have h2 := val_set (xs := zs.set j (nth zs j + x * 2 ^ r % 4294967296)) (i := j + 1) (x := x * 2 ^ r / 4294967296) (by simpa using hj)
  rw [nth_set_ne (by omega), h0, Nat.mul_zero, Nat.add_zero] at h2
  rw [Nat.pow_succ, Nat.mul_assoc] at h2
  rw [h2]
  generalize 4294967296 ^ j = P at *
  generalize x * 2 ^ r = s at *
  have e : P * (s % 4294967296) + P * (4294967296 * (s / 4294967296)) = P * s := by
    rw [← Nat.mul_add]; congr 1; omega
  rw [Nat.mul_add] at h1
  omega
theorem lshl_or {x r o : Nat} (hx : x < 4294967296) (hr : r < 32) (ho : o < 2 ^ r) :
    IntKind.u64.wrap ((x : Int) * 2 ^ r) = ((x * 2 ^ r : Nat) : Int) ∧ Go.bits BinOp.and IntKind.u64 ((x * 2 ^ r : Nat) : Int) 4294967295 % 4294967296 = ((x * 2 ^ r % 4294967296 : Nat) : Int) ∧
    Go.bits BinOp.or IntKind.u32 (o : Int) ((x * 2 ^ r % 4294967296 : Nat) : Int) = ((o + x * 2 ^ r % 4294967296 : Nat) : Int) ∧ o + x * 2 ^ r % 4294967296 < 4294967296 ∧ x * 2 ^ r / 4294967296 < 2 ^ r ∧ x * 2 ^ r < 9223372036854775808 := by
  have h1 : 2 ^ r ≤ 2 ^ 31 := Nat.pow_le_pow_right (by decide) (by omega)
  have h2 : x * 2 ^ r ≤ 4294967295 * 2 ^ r := Nat.mul_le_mul_right _ (by omega)
  obtain ⟨C, hC⟩ : ∃ C, 4294967296 = 2 ^ r * C := ⟨2 ^ (32 - r), by rw [← Nat.pow_add, show r + (32 - r) = 32 from by omega]⟩
  have hm : x * 2 ^ r % 4294967296 % 2 ^ r = 0 := by
    conv => lhs; lhs; rw [hC]
    rw [Nat.mod_mul_right_mod, Nat.mul_mod_left]
  have hlt : x * 2 ^ r % 4294967296 < 4294967296 := Nat.mod_lt _ (by decide)
  have hor : o ||| x * 2 ^ r % 4294967296 = o + x * 2 ^ r % 4294967296 := by rw [Nat.or_comm, nat_join r _ _ hm ho, Nat.add_comm]
  refine ⟨?_, and_lowI rfl (by omega), ?_, ?_, ?_, by omega⟩
  · rw [show (x : Int) * 2 ^ r = ((x * 2 ^ r : Nat) : Int) from by push_cast; rfl, IntKind.wrap_u64]
    omega
  · rw [u32_or_nat _ _ (by omega) hlt, hor]
  · rw [← hor]; exact lt_or32 (by omega) hlt
  exact (Nat.div_lt_iff_lt_mul (by decide)).2 (by rw [Nat.mul_comm (2 ^ r)]; exact Nat.mul_lt_mul_of_pos_right hx (two_pow_pos r))
set_option maxHeartbeats 2000000 in
set_option maxRecDepth 100000 in
theorem r1shl_any (a : Option Addr) (xs : List Nat) (c n : Nat) (w : World) (h1 : Rd w a xs) (hxc : xs.length ≤ c) (hc : c ≤ maxLen) (hxl : xs.length ≤ 100000) (hn : n ≤ 20000000) :
    Calls Tryz.prog 102 #[.slice a xs.length c, .int .i64 (n : Nat)] w (NatOut w (val xs * 2 ^ n)) := by
  have hll := limbs_len_le h1.lt32
  have HT := Lib.hid (r1trim_any a xs c w h1 hxc hc (by omega))
  have Hfin := Lib.hid (show val xs * 2 ^ n = 4294967296 ^ (n / 32) * (val (limbs (val xs)) * 2 ^ (n % 32)) by rw [val_limbs, ← pow_split n, Nat.mul_left_comm])
  clear h1
  go_enter Tryz.func102, Tryz.ntmps102
  go_wp2_with fail
  refine HT.out.mono ?_
  rintro e w1 ⟨a1, c1, rfl, l1, m1, r1, k1⟩
  clear HT
  have h32 := limbs_lt32 (val xs)
  generalize limbs (val xs) = ls at *
  have hr : n % 32 < 32 := Nat.mod_lt _ (by decide)
  have hmk := make_u32 ((n : Int) / 32 + ls.length + 1) (n / 32 + ls.length + 1) (by omega) (by omega)
  go_wp2_with fail
  clear hmk
  go_loopw [6] (fun ix wr => ∃ (i : Nat) (zs : List Nat), i ≤ ls.length ∧ ix = .int .i64 i ∧ zs.length = n / 32 + ls.length + 1 ∧ Blk wr w1.heap.size zs ∧ Lt32 zs ∧
    val zs = 4294967296 ^ (n / 32) * (val (ls.take i) * 2 ^ (n % 32)) ∧ nth zs (i + n / 32) < 2 ^ (n % 32) ∧ (∀ j, i + n / 32 < j → nth zs j = 0) ∧ Kp w1 wr) (fun ix _ => ls.length - (intOf ix).toNat)
  case atStart => exact ⟨0, _, Nat.zero_le _, rfl, by simp, Blk.made _ _, .replicate _, by simp [val, val_replicate], by rw [nth_replicate]; exact two_pow_pos _, fun j _ => nth_replicate _ _, (Kp.refl _).alloc _⟩
  case round =>
  obtain ⟨i, zs, hi, rfl, hzl, hb, hz32, hvz, hzt, hz0, hkp⟩ := hrel
  have Hvz := Lib.hid hvz
  have Hzl := Lib.hid hzl
  have Hz0 := Lib.hid hz0
  have Hzt := Lib.hid hzt
  clear hvz hz0 hzt
  by_cases hlt : i < ls.length
  rotate_left
  · have e2 := Hvz.out
    rw [List.take_of_length_le (by omega)] at e2
    have E2 := Lib.hid e2
    have HT := Lib.hid (r1trim_any (some ⟨w1.heap.size, 0, none⟩) zs (n / 32 + ls.length + 1) wr (hb.rd hz32) (by omega) (by unfold maxLen; omega) (by omega))
    rw [hzl] at HT
    have hkk := Lib.hid (k1.trans hkp)
    clear e2 hb hkp
    go_wp2_with fail
    with_reducible refine HT.out.mono ?_
    rintro e w7 ⟨a6, c6, rfl, l6, m6, r6, k6⟩
    go_wp2_with fail
    go_ret
    rw [Hfin.out.trans E2.out.symm]
    exact ⟨a6, c6, rfl, l6, m6, r6, hkk.out.trans k6⟩
  obtain ⟨b1, o1, rfl, hcx⟩ := (r1.kp hkp).some hlt
  have hx1 := hcx i hlt
  have bx := h32.nth i
  clear hcx
  obtain ⟨q1, q2, q3, q4, q5, q6⟩ := lshl_or bx hr Hzt.out
  have hs1 := hb.cell (i := i + n / 32) (by omega)
  have hs2 := hb.frozen (i + n / 32)
  have hs3 := hb.cell (i := i + n / 32 + 1) (by omega)
  have hs4 := hb.frozen (i + n / 32 + 1)
  have HQ := Lib.hid (And.intro q2 q3)
  have HC := Lib.hid (show ((nth ls i : Nat) : Int) * 2 ^ (n % 32) = ((nth ls i * 2 ^ (n % 32) : Nat) : Int) by push_cast; rfl)
  have HF1 := Lib.hid q4
  have HF2 := Lib.hid q5
  have HST := Lib.hid (lshl_step (zs := zs) (j := i + n / 32) (x := nth ls i) (r := n % 32) (by omega) (Hz0.out _ (by omega)))
  have hne1 : (⟨w1.heap.size, i + n / 32, none⟩ : Addr) ≠ ⟨w1.heap.size, i + n / 32 + 1, none⟩ := fun e => by injection e with _ e2; omega
  clear q2 q3 q4 q5
  go_wp2_with fail
  go_roundw
  case measure => simp [intOf]; omega
  case rel =>
  refine ⟨i + 1, (zs.set (i + n / 32) (nth zs (i + n / 32) + nth ls i * 2 ^ (n % 32) % 4294967296)).set (i + n / 32 + 1) (nth ls i * 2 ^ (n % 32) / 4294967296), by omega, by go_num, by simp [Hzl.out], (hb.put ?_).put ?_, (hz32.set _ _ HF1.out).set _ _ (Nat.lt_of_lt_of_le HF2.out (Nat.le_trans (Nat.pow_le_pow_right (by decide) (by omega : n % 32 ≤ 31)) (by decide))), ?_, ?_, fun j hj => ?_, (hkp.set (Nat.le_refl _) _).set (Nat.le_refl _) _⟩
  · rw [HC.out, HQ.out.1, HQ.out.2]
  · rw [HC.out]
    have := HF2.out
    have h2 : 2 ^ (n % 32) ≤ 2 ^ 31 := Nat.pow_le_pow_right (by decide) (by omega)
    omega
  · rw [HST.out, Hvz.out, val_take_step ls, Nat.add_mul, Nat.mul_add, Nat.add_comm i, Nat.pow_add, Nat.mul_assoc, Nat.mul_assoc]
  · rw [show i + 1 + n / 32 = i + n / 32 + 1 by omega, nth_set_eq (by simp; omega)]; exact HF2.out
  rw [nth_set_ne (by omega), nth_set_ne (by omega)]; exact Hz0.out j (by omega)
theorem val_ext {xs ys : List Nat} (h : ∀ i, nth xs i = nth ys i) : val xs = val ys := by
  induction xs generalizing ys with
  | nil =>
    induction ys with
    | nil => rfl
    | cons y ys ih =>
      have h0 := h 0
      rw [nth_cons_zero] at h0
      have h1 : val ([] : List Nat) = val ys := ih (fun i => by
        have := h (i + 1)
        rw [nth_cons_succ] at this
        rw [← this, nth_ge (by simp), nth_ge (by simp)])
      rw [val_cons, ← h1, ← h0]; rfl
  | cons x xs ih =>
    cases ys with
    | nil =>
      have h0 := h 0
      rw [nth_cons_zero] at h0
      have h1 : val xs = val ([] : List Nat) := ih (fun i => by
        have := h (i + 1)
        rw [nth_cons_succ] at this
        rw [this, nth_ge (by simp), nth_ge (by simp)])
      rw [val_cons, h1, h0]; rfl
    | cons y ys =>
      have h0 := h 0
      rw [nth_cons_zero, nth_cons_zero] at h0
      have h1 : val xs = val ys := ih (fun i => by
        have := h (i + 1)
        rwa [nth_cons_succ, nth_cons_succ] at this)
      rw [val_cons, val_cons, h1, h0]
theorem val_low_lt {xs : List Nat} (h : Lt32 xs) (j : Nat) : val (xs.take j) < 4294967296 ^ j := by
  have := val_lt (h.take j)
  refine Nat.lt_of_lt_of_le this (Nat.pow_le_pow_right (by decide) ?_)
  rw [List.length_take]; omega
theorem val_split (xs : List Nat) (j : Nat) : val xs = val (xs.take j) + 4294967296 ^ j * nth xs j + 4294967296 ^ (j + 1) * val (xs.drop (j + 1)) := by
  have h1 := val_take_step xs j
  by_cases h : j + 1 ≤ xs.length
  · have h2 := val_take_drop xs (j + 1) h
    rw [h1] at h2
    exact h2
  have e1 : xs.take (j + 1) = xs := List.take_of_length_le (by omega)
  have e2 : xs.drop (j + 1) = [] := List.drop_of_length_le (by omega)
  rw [e1] at h1
  have e3 : val ([] : List Nat) = 0 := rfl
  rw [e2, e3, Nat.mul_zero, Nat.add_zero]
  exact h1
theorem val_lt_nth {xs ys : List Nat} {j : Nat} (hx : Lt32 xs) (he : ∀ i, j < i → nth xs i = nth ys i) (hlt : nth xs j < nth ys j) : val xs < val ys := by
  rw [val_split xs j, val_split ys j]
  have h1 : val (xs.drop (j + 1)) = val (ys.drop (j + 1)) := val_ext fun i => by rw [nth_drp, nth_drp]; exact he _ (by omega)
  have h2 := val_low_lt hx j
  rw [h1]
  have h3 : 4294967296 ^ j * (nth xs j + 1) ≤ 4294967296 ^ j * nth ys j := Nat.mul_le_mul_left _ hlt
  rw [Nat.mul_add, Nat.mul_one] at h3
  omega
set_option maxHeartbeats 2000000 in
theorem r1cmp_any (a b : Option Addr) (xs ys : List Nat) (c d : Nat) (w : World) (h1 : Rd w a xs) (h2 : Rd w b ys) (hxl : xs.length ≤ 1100000) (hyl : ys.length ≤ 1100000) :
    Calls Tryz.prog 146 #[.slice a xs.length c, .slice b ys.length d] w fun e w' => e = .returned (.int .i64 (cmpN (val xs) (val ys))) ∧ w = w' := by
  obtain ⟨L, hL⟩ : ∃ L : Nat, (L : Int) = max (xs.length : Int) ys.length := ⟨max xs.length ys.length, by omega⟩
  have hL2 : xs.length ≤ L ∧ ys.length ≤ L ∧ L ≤ 1100000 := by omega
  obtain ⟨hL3, hL4, hL5⟩ := hL2
  have hst : max (xs.length : Int) ys.length - 1 = (L : Int) - 1 := by omega
  go_enter Tryz.func146, Tryz.ntmps146
  go_wp2_with fail
  go_loopw [5] (fun ix wr => ∃ k : Nat, k ≤ L ∧ ix = .int .i64 ((k : Int) - 1) ∧ (∀ i, k ≤ i → nth xs i = nth ys i) ∧ w = wr) (fun ix _ => (intOf ix + 1).toNat)
  case atStart => exact ⟨L, Nat.le_refl _, by congr 1 <;> omega, fun i hi => by rw [nth_ge (by omega), nth_ge (by omega)], rfl⟩
  case round =>
  obtain ⟨k, hk, rfl, hz, rfl⟩ := hrel
  have Hz := Lib.hid hz
  clear hz
  rcases k with _ | j
  · rw [show (((0 : Nat) : Int) - 1) = -1 from rfl]
    have HE := Lib.hid (cmpN_eq (val_ext (fun i => Hz.out i (Nat.zero_le _))))
    go_wp2_with fail
    go_ret
    exact ⟨ret_int HE.out.symm, rfl⟩
  rw [show (((j + 1 : Nat) : Int) - 1) = (j : Int) from by omega]
  rcases Nat.lt_trichotomy (nth xs j) (nth ys j) with hd1 | hd1 | hd1
  · have HR := Lib.hid (cmpN_lt (val_lt_nth h1.lt32 (fun i hi => Hz.out i hi) hd1))
    go_wp2_with fail
    refine (r1at_any a xs c j _ h1).mono ?_
    rintro e w1 ⟨rfl, rfl⟩
    go_wp2_with fail
    refine (r1at_any b ys d j _ h2).mono ?_
    rintro e w1 ⟨rfl, rfl⟩
    go_wp2_with fail
    go_ret
    exact ⟨ret_int HR.out.symm, rfl⟩
  · have hd2 : ¬ nth xs j < nth ys j := by omega
    have hd3 : ¬ nth ys j < nth xs j := by omega
    have Hd1 := Lib.hid hd1
    clear hd1
    go_wp2_with fail
    refine (r1at_any a xs c j _ h1).mono ?_
    rintro e w1 ⟨rfl, rfl⟩
    go_wp2_with fail
    refine (r1at_any b ys d j _ h2).mono ?_
    rintro e w1 ⟨rfl, rfl⟩
    go_wp2_with fail
    refine (r1at_any a xs c j _ h1).mono ?_
    rintro e w1 ⟨rfl, rfl⟩
    go_wp2_with fail
    refine (r1at_any b ys d j _ h2).mono ?_
    rintro e w1 ⟨rfl, rfl⟩
    go_wp2_with fail
    go_roundw
    case measure => simp [intOf]
    case rel =>
    refine ⟨j, by omega, rfl, fun i hi => ?_, by first | rfl | trivial⟩
    by_cases hij : i = j
    · rw [hij]; exact Hd1.out
    exact Hz.out i (by omega)
  have hd2 : ¬ nth xs j < nth ys j := by omega
  have HR := Lib.hid (cmpN_gt (val_lt_nth h2.lt32 (fun i hi => (Hz.out i hi).symm) hd1))
  go_wp2_with fail
  refine (r1at_any a xs c j _ h1).mono ?_
  rintro e w1 ⟨rfl, rfl⟩
  go_wp2_with fail
  refine (r1at_any b ys d j _ h2).mono ?_
  rintro e w1 ⟨rfl, rfl⟩
  go_wp2_with fail
  refine (r1at_any a xs c j _ h1).mono ?_
  rintro e w1 ⟨rfl, rfl⟩
  go_wp2_with fail
  refine (r1at_any b ys d j _ h2).mono ?_
  rintro e w1 ⟨rfl, rfl⟩
  go_wp2_with fail
  go_ret
  exact ⟨ret_int HR.out.symm, rfl⟩
set_option maxHeartbeats 2000000 in
set_option maxRecDepth 100000 in
theorem r1add_any (a b : Option Addr) (xs ys : List Nat) (c d : Nat) (w : World) (h1 : Rd w a xs) (h2 : Rd w b ys) (hxl : xs.length ≤ 1000000) (hyl : ys.length ≤ 1000000) :
    Calls Tryz.prog 147 #[.slice a xs.length c, .slice b ys.length d] w (NatOut w (val xs + val ys)) := by
  obtain ⟨L, hL⟩ : ∃ L : Nat, (L : Int) = max (xs.length : Int) ys.length := ⟨max xs.length ys.length, by omega⟩
  have hL2 : xs.length ≤ L ∧ ys.length ≤ L ∧ L ≤ 1000000 := by omega
  obtain ⟨hL3, hL4, hL5⟩ := hL2
  go_enter Tryz.func147, Tryz.ntmps147
  go_wp2_with fail
  go_loopw [5, 6, 7] (fun v cy ix wr => ∃ (k q : Nat) (zs : List Nat), k ≤ L + 1 ∧ q ≤ 1 ∧ (k = L + 1 → q = 0) ∧ cy = .int .u64 q ∧ ix = .int .i64 k ∧ zs.length = k ∧ Own wr w.heap.size v zs ∧
      val zs + 4294967296 ^ k * q = val (xs.take k) + val (ys.take k) ∧ Kp w wr) (fun _ _ ix _ => L + 1 - (intOf ix).toNat)
  case atStart => exact ⟨0, 0, [], by omega, by decide, fun _ => rfl, rfl, rfl, rfl, Own.nil _ _, by simp [val], .refl _⟩
  case round =>
  obtain ⟨k, q, zs, hk, hq, hkq, rfl, rfl, hzl, hown, hvz, hkp⟩ := hrel
  have Hvz := Lib.hid hvz
  have Hzl := Lib.hid hzl
  have Hkq := Lib.hid hkq
  have hzl2 : zs.length + 1 ≤ 9000000 := by omega
  clear hvz hkq
  rcases (show k < L ∨ (L ≤ k ∧ q = 1) ∨ (L ≤ k ∧ q = 0) by omega) with hlt | ⟨hge, hq1⟩ | ⟨hge, hq0⟩
  · have ht : (k : Int) < max (xs.length : Int) ys.length := by omega
    clear hzl
    have Hst := Lib.hid (fun z c' => plus_step (z := z) (c' := c') Hzl.out Hvz.out)
    have bx := h1.lt32.nth k
    have by' := h2.lt32.nth k
    have hcl := Lib.hid (and_lowI (x := (nth xs k : Int) + nth ys k + q) (s := nth xs k + nth ys k + q) (by omega) (by omega))
    go_wp2_with fail
    refine (r1at_any a xs c k _ (h1.kp hkp)).mono ?_
    rintro e w1 ⟨rfl, rfl⟩
    go_wp2_with fail
    refine (r1at_any b ys d k _ (h2.kp hkp)).mono ?_
    rintro e w1 ⟨rfl, rfl⟩
    go_wp2_with (at_builtin; refine wpList_append_u32 rfl _ _ rfl w.heap.size _ _ rfl (hown.alloc _) _ _ rfl (World.cell?_alloc_new _ _ _ _) ((nth xs k + nth ys k + q) % 4294967296) hcl.out (Nat.mod_lt _ (by decide)) hzl2 (by have := hkp.size; simp; omega) ?_; intro a2 c2 w2 hown2 hb2)
    go_roundw
    case measure => simp [intOf]; omega
    case rel => exact ⟨k + 1, (nth xs k + nth ys k + q) / 4294967296, _, by omega, by omega, (fun h => absurd h (by omega)), by go_num, by go_num, by simp [Hzl.out], hown2, Hst.out _ _ (by omega), (hkp.alloc _).below.trans hb2⟩
  · have ht : ¬ (k : Int) < max (xs.length : Int) ys.length := by omega
    have hk' : k = L := by
      have := Hkq.out
      rcases Nat.lt_or_ge L k with h | h
      · exact absurd (this (by omega)) (by omega)
      · omega
    have hq2 : (0 : Int) < (q : Int) := by omega
    have hX0 := Lib.hid (nth_ge (xs := xs) (i := k) (by omega))
    have hY0 := Lib.hid (nth_ge (xs := ys) (i := k) (by omega))
    have Hq1 := Lib.hid hq1
    have Hk := Lib.hid hk'
    clear hzl hge hq1 hk'
    have Hst := Lib.hid (fun z c' => plus_step (z := z) (c' := c') Hzl.out Hvz.out)
    have bx := h1.lt32.nth k
    have by' := h2.lt32.nth k
    have hcl := Lib.hid (and_lowI (x := (nth xs k : Int) + nth ys k + q) (s := nth xs k + nth ys k + q) (by omega) (by omega))
    go_wp2_with fail
    refine (r1at_any a xs c k _ (h1.kp hkp)).mono ?_
    rintro e w1 ⟨rfl, rfl⟩
    go_wp2_with fail
    refine (r1at_any b ys d k _ (h2.kp hkp)).mono ?_
    rintro e w1 ⟨rfl, rfl⟩
    go_wp2_with (at_builtin; refine wpList_append_u32 rfl _ _ rfl w.heap.size _ _ rfl (hown.alloc _) _ _ rfl (World.cell?_alloc_new _ _ _ _) ((nth xs k + nth ys k + q) % 4294967296) hcl.out (Nat.mod_lt _ (by decide)) hzl2 (by have := hkp.size; simp; omega) ?_; intro a2 c2 w2 hown2 hb2)
    go_roundw
    case measure => have := Hk.out; simp [intOf]; omega
    case rel => exact ⟨k + 1, (nth xs k + nth ys k + q) / 4294967296, _, by have := Hk.out; omega, by omega, fun _ => by have := Hq1.out; rw [hX0.out, hY0.out]; omega, by go_num, by go_num, by simp [Hzl.out], hown2, Hst.out _ _ (by omega), (hkp.alloc _).below.trans hb2⟩
  have ht : ¬ (k : Int) < max (xs.length : Int) ys.length := by omega
  have hq2 : ¬ (0 : Int) < (q : Int) := by omega
  obtain ⟨a5, c5, e5, l5, m5, r5⟩ := hown.value
  subst e5
  have e3 := Lib.hid (show val zs = val xs + val ys by
    have e := Hvz.out
    rw [List.take_of_length_le (by omega), List.take_of_length_le (by omega), hq0, Nat.mul_zero, Nat.add_zero] at e
    exact e)
  have hT := Lib.hid (r1trim_any a5 zs c5 wr r5 l5 m5 (by omega))
  have hkk := Lib.hid hkp
  clear hkp hown hzl hq0 hge
  go_wp2_with fail
  refine hT.out.mono ?_
  rintro e w7 ⟨a6, c6, rfl, l6, m6, r6, k6⟩
  go_wp2_with fail
  go_ret
  rw [← e3.out]
  exact ⟨a6, c6, rfl, l6, m6, r6, hkk.out.trans k6⟩
set_option maxHeartbeats 2000000 in
set_option maxRecDepth 100000 in
theorem r1sub_any (a b : Option Addr) (xs ys : List Nat) (c d : Nat) (w : World) (h1 : Rd w a xs) (h2 : Rd w b ys) (hxl : xs.length ≤ 1000000) (hyl : ys.length ≤ xs.length) (hle : val ys ≤ val xs) :
    Calls Tryz.prog 179 #[.slice a xs.length c, .slice b ys.length d] w (NatOut w (val xs - val ys)) := by
  have Hle := Lib.hid hle
  clear hle
  go_enter Tryz.func179, Tryz.ntmps179
  go_wp2_with fail
  go_loopw [5, 6, 7] (fun v cy ix wr => ∃ (k q : Nat) (zs : List Nat), k ≤ xs.length ∧ q ≤ 1 ∧ cy = .int .u64 q ∧ ix = .int .i64 k ∧ zs.length = k ∧ Own wr w.heap.size v zs ∧
      val zs + val (ys.take k) = val (xs.take k) + 4294967296 ^ k * q ∧ Kp w wr) (fun _ _ ix _ => xs.length - (intOf ix).toNat)
  case atStart => exact ⟨0, 0, [], Nat.zero_le _, by decide, rfl, rfl, rfl, Own.nil _ _, by simp [val], .refl _⟩
  case round =>
  obtain ⟨k, q, zs, hk, hq, rfl, rfl, hzl, hown, hvz, hkp⟩ := hrel
  have Hvz := Lib.hid hvz
  have Hzl := Lib.hid hzl
  have hzl2 : zs.length + 1 ≤ 9000000 := by omega
  clear hvz
  by_cases hlx : k < xs.length
  · have bx := h1.lt32.nth k
    have by' := h2.lt32.nth k
    clear hzl
    have Hst := Lib.hid (fun z c' => minus_step (z := z) (c' := c') Hzl.out Hvz.out)
    have hcl := Lib.hid (and_lowI (x := (nth xs k : Int) + 4294967296 - (nth ys k : Int) - (q : Int)) (s := nth xs k + 4294967296 - (q + nth ys k)) (by omega) (by omega))
    go_wp2_with fail
    refine (r1at_any a xs c k _ (h1.kp hkp)).mono ?_
    rintro e w1 ⟨rfl, rfl⟩
    go_wp2_with fail
    refine (r1at_any b ys d k _ (h2.kp hkp)).mono ?_
    rintro e w1 ⟨rfl, rfl⟩
    go_wp2_with (at_builtin; refine wpList_append_u32 rfl _ _ rfl w.heap.size _ _ rfl (hown.alloc _) _ _ rfl (World.cell?_alloc_new _ _ _ _) ((nth xs k + 4294967296 - (q + nth ys k)) % 4294967296) hcl.out (Nat.mod_lt _ (by decide)) hzl2 (by have := hkp.size; simp; omega) ?_; intro a2 c2 w2 hown2 hb2)
    go_roundw
    case measure => simp [intOf]; omega
    case rel => exact ⟨k + 1, 1 - (nth xs k + 4294967296 - (q + nth ys k)) / 4294967296, _, by omega, by omega, by congr 1; omega, by go_num, by simp [Hzl.out], hown2, Hst.out _ _ (by omega), (hkp.alloc _).below.trans hb2⟩
  obtain ⟨a5, c5, e5, l5, m5, r5⟩ := hown.value
  subst e5
  have e3 := Lib.hid (show val zs = val xs - val ys by
    have e := Hvz.out
    have hl := Hle.out
    have hb := val_lt r5.lt32
    rw [hzl] at hb
    rw [List.take_of_length_le (by omega), List.take_of_length_le (by omega)] at e
    generalize 4294967296 ^ k = P at *
    have hq2 : q = 0 ∨ q = 1 := by omega
    rcases hq2 with rfl | rfl <;> omega)
  have hT := Lib.hid (r1trim_any a5 zs c5 wr r5 l5 m5 (by omega))
  have hkk := Lib.hid hkp
  clear hkp hown hzl
  go_wp2_with fail
  refine hT.out.mono ?_
  rintro e w7 ⟨a6, c6, rfl, l6, m6, r6, k6⟩
  go_wp2_with fail
  go_ret
  rw [← e3.out]
  exact ⟨a6, c6, rfl, l6, m6, r6, hkk.out.trans k6⟩
end Go.Proofs.YtpocjagbhiahdaaGreatDoor
