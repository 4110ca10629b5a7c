/-
  Walks: linear.square, Discs.
-/
import Derived.Deep.DeepFit
import Derived.Deep.LoopGhost
import Derived.Test.YtpocjagbhiahdaaGreatDoorMDscM
import Derived.Test.YtpocjagbhiahdaaGreatDoorMArdN
import Derived.Deep.CutRange
import Derived.Test.YtpocjagbhiahdaaGreatDoorMPts8
import Derived.Test.YtpocjagbhiahdaaGreatDoorMEchM
namespace Go.Proofs.YtpocjagbhiahdaaGreatDoor
open Go.RowKit
def sqM (m : List (List RI)) : Bool := vlM m && decide (m.length = colsM m)
set_option maxHeartbeats 2000000 in
theorem lsquare_any (m : List (List RI)) (a : Option Addr) (c : Nat) (w : World) (hm : RowM w a m) (hl : m.length ≤ 1100000) :
    Calls Tryz.prog 53 #[.slice a m.length c] w fun e w' => e = .returned (.bool (sqM m)) ∧ Kp w w' := by
  cases hv : vlM m with
  | false =>
    have H := Lib.hid (mvalid_any a m c w hm hl)
    rw [hv] at H
    have HE := Lib.hid (show sqM m = false by unfold sqM; rw [hv]; rfl)
    clear hm hv
    go_enter Tryz.func53, Tryz.ntmps53
    go_wp2_with fail
    go_fit H.out
    rintro e w1 ⟨rfl, k1⟩
    go_wp2_with fail
    go_ret
    exact ⟨ret_bool HE.out.symm, k1⟩
  | true =>
  obtain ⟨r0, hr0, hc0⟩ := vlM_row0 hv
  have H := Lib.hid (mvalid_any a m c w hm hl)
  rw [hv] at H
  have hml := (vlM_iff.1 hv).1
  obtain ⟨ba, oa, ra, rc, rfl, hrow, _⟩ := hm 0 r0 hr0
  rw [Nat.add_zero] at hrow
  have hi1 : (0 : Int) < (m.length : Int) := by omega
  have HE := Lib.hid (show sqM m = decide (m.length = r0.length) by unfold sqM; rw [hv, hc0]; rfl)
  have HW := Lib.hid hrow
  clear hm hv hr0 hc0 hml hrow
  go_enter Tryz.func53, Tryz.ntmps53
  go_wp2_with fail
  go_fit H.out
  rintro e w1 ⟨rfl, k1⟩
  have hrow := k1.cell HW.out
  go_wp2_with fail
  go_ret
  refine ⟨ret_bool ?_, k1⟩
  rw [HE.out, Bool.eq_iff_iff, beq_iff_eq, decide_eq_true_eq]
  omega
def DisE (w : World) (X : List PI) (f : Int) (e : Ending) (w' : World) : Prop :=
  ∃ (a : Option Addr) (Z : List RI) (c : Nat), e = .returned (.tuple #[.slice a Z.length c, .int .i64 f]) ∧ RowI w' a Z ∧ plR Z = X ∧ (∀ x ∈ Z, x.vl = true) ∧ Z.length ≤ 1100000 ∧ Kp w w'
theorem disE_nil {w w' : World} {f : Int} {e : Ending} (h : e = .returned (.tuple #[.slice none 0 0, .int .i64 f])) (k : Kp w w') : DisE w [] f e w' := ⟨none, [], 0, h, fun i x h => by simp at h, rfl, fun r h => by simp at h, by simp, k⟩
set_option maxRecDepth 100000 in
set_option maxHeartbeats 8000000 in
theorem ldiscs_any (m : List (List RI)) (a : Option Addr) (c : Nat) (p : Int) (w : World) (hm : RowM w a m) (hl : m.length ≤ 1100000) (hT : Tab w) :
    Calls Tryz.prog 12 #[.slice a m.length c, .int .i64 p] w (DisE w (dscC m p).1 (dscC m p).2) := by
  have HM := Lib.hid hm
  have HT := Lib.hid hT
  obtain ⟨D, hD⟩ : ∃ D, D = dscC m p := ⟨_, rfl⟩
  have HD := Lib.hid hD
  rw [← hD]
  clear hm hT hD
  go_enter Tryz.func12, Tryz.ntmps12
  go_wp2_with fail
  go_fit (lprecise_any p _)
  rintro e w3 ⟨rfl, rfl⟩
  cases hp : preB p with
  | false =>
    have HE := Lib.hid (show D = ([], 1) by rw [HD.out]; unfold dscC; rw [hp]; rfl)
    clear hp
    go_wp2_with fail
    rw [HE.out]
    refine bodyPost_ret (v := .tuple #[.slice none 0 0, .int .i64 1]) (by simp [results, Tryz.results12, go_sem]) rfl ?_
    exact disE_nil rfl (Kp.refl _)
  | true =>
  have HP := Lib.hid hp
  clear hp
  go_wp2_with fail
  go_fit (lsquare_any m a c _ HM.out hl)
  rintro e w1 ⟨rfl, k1⟩
  cases hs : sqM m with
  | false =>
    have HE := Lib.hid (show D = ([], 1) by
      rw [HD.out]; unfold dscC
      rw [HP.out, show (vlM m && decide (m.length = colsM m)) = false from hs]; rfl)
    clear hs
    go_wp2_with fail
    rw [HE.out]
    refine bodyPost_ret (v := .tuple #[.slice none 0 0, .int .i64 1]) (by simp [results, Tryz.results12, go_sem]) rfl ?_
    exact disE_nil rfl k1
  | true =>
  have hs' := hs
  unfold sqM at hs'
  rw [Bool.and_eq_true, decide_eq_true_eq] at hs'
  have HS := Lib.hid hs'
  have HVM := Lib.hid hs'.1
  obtain ⟨q, hq⟩ : ∃ q : Nat, q = p.toNat := ⟨_, rfl⟩
  have hpq : p = (q : Int) := by have := preB_iff.1 HP.out; omega
  have hq0 : 8 ≤ q := by have := preB_iff.1 HP.out; omega
  have hq1 : q ≤ 512 := by have := preB_iff.1 HP.out; omega
  obtain ⟨F, hF⟩ : ∃ F : Nat → PI, F = fun i => dscF q (plR (m.getD i [])) i := ⟨_, rfl⟩
  have HE := Lib.hid (show D = (rowF m.length F, 0) by
    rw [HD.out]; unfold dscC
    rw [HP.out, show (vlM m && decide (m.length = colsM m)) = true from hs, hF, hq]; rfl)
  have HF := Lib.hid hF
  have hml := (vlM_iff.1 HVM.out).1
  have HML := Lib.hid hml
  have HQ := Lib.hid hq
  have HK1 := Lib.hid k1
  rw [hpq]
  clear hs hs' hpq hq hF hml k1
  go_wp2_with fail
  go_loopg [6, 19] m.length (fun z v t wr => ∃ cur : List RI, cur.length + z = m.length ∧ t = .int .i64 (cur.length : Int) ∧ OwnN w1 wr v cur ∧ plR cur = rowF cur.length F ∧ ∀ x ∈ cur, x.vl = true)
  case atStart => exact ⟨[], by simp, rfl, OwnN.nil (Kp.refl _), rfl, fun x h => by simp at h⟩
  case round =>
  obtain ⟨cur, hcq, rfl, hown0, hpc, hvc⟩ := hrel
  have hk9 := hown0.1
  by_cases hlt : cur.length < m.length
  rotate_left
  · have hRe : cur.length = m.length := by omega
    obtain ⟨va, vc, rfl, hvc1, hvc2, hrm⟩ := hown0.value
    have HRe := Lib.hid (And.intro hRe (And.intro hrm (And.intro hpc hvc)))
    have HML8 := Lib.hid (show cur.length ≤ 1100000 by have := HML.out; omega)
    have HK9 := Lib.hid (HK1.out.trans hk9)
    clear hRe hcq hrm hpc hvc hown0 hk9
    go_wp2_with fail
    rw [HE.out]
    refine bodyPost_ret (v := .tuple #[.slice va cur.length vc, .int .i64 0]) (by simp [results, Tryz.results12, go_sem]) rfl ?_
    refine ⟨va, cur, vc, rfl, HRe.out.2.1, ?_, HRe.out.2.2.2, HML8.out, HK9.out⟩
    rw [HRe.out.2.2.1, HRe.out.1]
  obtain ⟨r, hr⟩ : ∃ r, m[cur.length]? = some r := ⟨_, List.getElem?_eq_getElem hlt⟩
  obtain ⟨b2, o2, ra2, rc2, rfl, hrc, hrow, hrl⟩ := HM.out cur.length r hr
  have hrcr := (HK1.out.trans hk9).cell hrc
  have HRW := Lib.hid (And.intro (hrow.kp (HK1.out.trans hk9)) (vlM_row HVM.out hr))
  have HG := Lib.hid (show dscF q (plR r) cur.length = F cur.length by
    rw [HF.out]
    show _ = dscF q (plR (m.getD cur.length [])) cur.length
    rw [List.getD_eq_getElem?_getD, hr]; rfl)
  have HPC := Lib.hid (And.intro hpc (And.intro hvc (And.intro hcq hlt)))
  have hk1 : (0 : Int) ≤ (cur.length : Int) := by omega
  have hk2 : (cur.length : Int) < (m.length : Int) := by omega
  have hcl : cur.length + 1 ≤ 9000000 := by omega
  have HOW := Lib.hid hown0
  have HRL := Lib.hid (show r.length = m.length by have := HRW.out.2.1; have := HS.out.2; omega)
  have HDI := Lib.hid (ldisc_any r ra2 rc2 cur.length q wr HRW.out.1 (by have := HRL.out; have := HML.out; omega) HRW.out.2.2 (by have := HRL.out; omega) hq0 hq1 (HT.out.kp (HK1.out.trans hk9)))
  clear hr hrc hrow hrl hpc hvc hcq hlt hown0 hk9
  go_wp2_with fail
  go_fit HDI.out
  rintro e v1 ⟨z, rfl, hz, hzp, hzv, j1⟩
  have hownA := HOW.out.kp (j1.alloc (.cells #[.bool z.lo.neg, .slice z.lo.a z.lo.xs.length z.lo.c, .int .i64 z.lo.e, .bool z.hi.neg, .slice z.hi.a z.hi.xs.length z.hi.c, .int .i64 z.hi.e, .bool z.all] 44))
  have hzA := hz.kp ((Kp.refl v1).alloc (.cells #[.bool z.lo.neg, .slice z.lo.a z.lo.xs.length z.lo.c, .int .i64 z.lo.e, .bool z.hi.neg, .slice z.hi.a z.hi.xs.length z.hi.c, .int .i64 z.hi.e, .bool z.all] 44))
  have ZP := Lib.hid (And.intro (hzp.trans HG.out) hzv)
  clear hz hzp hzv j1 hrcr
  go_wp2_with (at_builtin; refine wpList_append_ivg rfl _ _ rfl w1 _ cur rfl hownA _ _ rfl z hzA (by simp) hcl ?_; intro a' c' w9 hown9 hgrow hblk)
  go_roundg (gk - 1)
  case measure => have := HPC.out.2.2; omega
  case rel =>
  refine ⟨cur ++ [z], by have := HPC.out.2.2; rw [List.length_append, List.length_singleton]; omega, by rw [List.length_append, List.length_singleton]; go_num, by simpa using hown9, ?_, ok_snoc HPC.out.2.1 ZP.out.2⟩
  rw [plR_snoc, HPC.out.1, List.length_append, List.length_singleton, rowF_snoc, ZP.out.1]
theorem plM_22 {Z : List (List RI)} {A B C D : PI} (h : plM Z = [[A, B], [C, D]]) (oZ : okM Z) : ∃ a b c d : RI, Z = [[a, b], [c, d]] ∧ (a.pl = A ∧ b.pl = B ∧ c.pl = C ∧ d.pl = D) ∧ sqM Z = true := by
  have hT : plM Z = tabM 2 2 (fun i j => if i = 0 then (if j = 0 then A else B) else if j = 0 then C else D) := h
  have hs : sqM Z = true := by
    unfold sqM
    rw [vlM_tab hT oZ (by decide) (by decide), tab_len hT, colsM_tab hT (by decide)]; rfl
  match Z, h with
  | [[a, b], [c, d]], h =>
    simp only [plM, plR, List.map_cons, List.map_nil, List.cons.injEq, and_true] at h
    obtain ⟨⟨h1, h2⟩, h3, h4⟩ := h
    exact ⟨a, b, c, d, rfl, ⟨h1, h2, h3, h4⟩, hs⟩
  | [], h => simp [plM] at h
  | [x], h => simp [plM] at h
  | x :: y :: z :: t, h => simp [plM] at h
  | [[], y], h => simp [plM, plR] at h
  | [[a], y], h => simp [plM, plR] at h
  | [a :: b :: c :: t, y], h => simp [plM, plR] at h
  | [[a, b], []], h => simp [plM, plR] at h
  | [[a, b], [c]], h => simp [plM, plR] at h
  | [[a, b], c :: d :: e :: t], h => simp [plM, plR] at h
theorem exL_discs {Z : List (List RI)} (h : plM Z = intP [[-3, 1], [1, -2]]) (oZ : okM Z) : dscC Z 64 = ([pnI (-4) (-2), pnI (-3) (-1)], 0) := by
  obtain ⟨a, b, c, d, rfl, ⟨h1, h2, h3, h4⟩, hs⟩ := plM_22 (show plM Z = [[pnI (-3) (-3), pnI 1 1], [pnI 1 1, pnI (-2) (-2)]] from h) oZ
  unfold sqM at hs
  unfold dscC
  rw [hs, if_pos (by decide)]
  obtain ⟨e1, e2⟩ := exL_disc (r0 := plR [a, b]) (r1 := plR [c, d]) (by simp [plR, h1, h2]) (by simp [plR, h3, h4])
  show ([dscF 64 (plR [a, b]) 0, dscF 64 (plR [c, d]) 1], (0 : Int)) = _
  rw [e1, e2]
set_option maxRecDepth 100000 in
set_option maxHeartbeats 16000000 in
theorem awake8_any (w : World) (hT : Tab w) :
    Calls Tryz.prog 6 #[] w fun e w' => e = .returned (.bool true) ∧ Kp w w' := by
  have HT := Lib.hid hT
  clear hT
  go_enter Tryz.func6, Tryz.ntmps6
  go_upto_region 2 with fail
  have hA := rowZZ_two w 2 1 1 1
  have kA := (((Kp.refl w).alloc (.cells #[.int .i64 2, .int .i64 1] 3)).alloc (.cells #[.int .i64 1, .int .i64 1] 3)).alloc (.cells #[.slice (some ⟨w.heap.size, 0, none⟩) 2 2, .slice (some ⟨w.heap.size + 1, 0, none⟩) 2 2] 51)
  obtain ⟨W3, hW3⟩ : ∃ X, X = (((w.alloc (.cells #[.int .i64 2, .int .i64 1] 3)).alloc (.cells #[.int .i64 1, .int .i64 1] 3)).alloc (.cells #[.slice (some ⟨w.heap.size, 0, none⟩) 2 2, .slice (some ⟨w.heap.size + 1, 0, none⟩) 2 2] 51)) := ⟨_, rfl⟩
  have hsz : W3.heap.size = w.heap.size + 1 + 1 + 1 := by rw [hW3]; simp
  have hV := rowZZ_two W3 1 (-1) (-1) 2
  have kV := (((Kp.refl W3).alloc (.cells #[.int .i64 1, .int .i64 (-1)] 3)).alloc (.cells #[.int .i64 (-1), .int .i64 2] 3)).alloc (.cells #[.slice (some ⟨W3.heap.size, 0, none⟩) 2 2, .slice (some ⟨W3.heap.size + 1, 0, none⟩) 2 2] 51)
  rw [hsz] at hV kV
  rw [← hW3] at hA kA
  rw [← hW3]
  have HA := Lib.hid (hA.kp kV)
  have HV := Lib.hid hV
  have HK := Lib.hid (kA.trans kV)
  clear hA hV kA kV hW3 hsz
  generalize ((W3.alloc _).alloc _).alloc _ = W6 at *
  have HN1 := Lib.hid (show Calls Tryz.prog 23 #[.slice (some ⟨w.heap.size + 1 + 1, 0, none⟩) 2 2] W6 (NumV W6 (intM [[2, 1], [1, 1]])) from numbers8_any [[2, 1], [1, 1]] _ 2 W6 HA.out (by decide) (by decide))
  go_wp2_with fail
  go_fit HN1.out
  rintro e w1 ⟨a1, Z1, c1, rfl, hZ1, pZ1, vZ1, lZ1, k1⟩
  have HZ1 := Lib.hid (And.intro hZ1 (exN_of pZ1 vZ1))
  have HL1 := Lib.hid lZ1
  have HK1 := Lib.hid (HK.out.trans k1)
  have HV1 := Lib.hid (HV.out.kp k1)
  have HN2 := Lib.hid (show Calls Tryz.prog 23 #[.slice (some ⟨w.heap.size + 1 + 1 + 1 + 1 + 1, 0, none⟩) 2 2] w1 (NumV w1 (intM [[1, -1], [-1, 2]])) from numbers8_any [[1, -1], [-1, 2]] _ 2 w1 HV1.out (by decide) (by decide))
  clear hZ1 pZ1 vZ1 lZ1 k1 HN1 HA HV HK
  go_wp2_with fail
  go_fit HN2.out
  rintro e w2 ⟨a2, Z2, c2, rfl, hZ2, pZ2, vZ2, lZ2, k2⟩
  have HZ2 := Lib.hid (And.intro hZ2 (exN_of pZ2 vZ2))
  have HK2 := Lib.hid (HK1.out.trans k2)
  have HV2 := Lib.hid (HV1.out.kp k2)
  have HCo := Lib.hid (lcorrect_any Z1 Z2 a1 a2 c1 c2 64 w2 (HZ1.out.1.kp k2) hZ2 HL1.out lZ2 (HT.out.kp HK2.out))
  rw [exL_cor HZ1.out.2 HZ2.out.2] at HCo
  clear hZ2 pZ2 vZ2 lZ2 k2 HN2 HV1 HK1 HZ1 HZ2
  go_wp2_with fail
  go_fit HCo.out
  rintro e w3 ⟨a3, Z3, c3, rfl, hZ3, pZ3, oZ3, lZ3, k3⟩
  have HZ3 := Lib.hid (And.intro hZ3 (And.intro pZ3 oZ3))
  have HL3 := Lib.hid lZ3
  have HK3 := Lib.hid (HK2.out.trans k3)
  have HV3 := Lib.hid (HV2.out.kp k3)
  clear hZ3 pZ3 oZ3 lZ3 k3 HCo HV2 HK2
  have hD := rowZZ_two w3 (-3) 1 1 (-2)
  have kD := (((Kp.refl w3).alloc (.cells #[.int .i64 (-3), .int .i64 1] 3)).alloc (.cells #[.int .i64 1, .int .i64 (-2)] 3)).alloc (.cells #[.slice (some ⟨w3.heap.size, 0, none⟩) 2 2, .slice (some ⟨w3.heap.size + 1, 0, none⟩) 2 2] 51)
  have HPo := Lib.hid (show Calls Tryz.prog 17 #[.slice (some ⟨w3.heap.size + 1 + 1, 0, none⟩) 2 2] _ (MatV _ (intP [[-3, 1], [1, -2]])) from points8_any [[-3, 1], [1, -2]] 2 _ 2 _ hD (rectZ_two (by decide) (by decide) (by decide) (by decide)))
  have HKD := Lib.hid kD
  clear hD kD
  go_wp2_with fail
  go_fit HPo.out
  rintro e w4 ⟨a4, Z4, c4, rfl, hZ4, pZ4, oZ4, lZ4, k4⟩
  have HK4 := Lib.hid (HK3.out.trans (HKD.out.trans k4))
  have HV4 := Lib.hid (HV3.out.kp (HKD.out.trans k4))
  have HZ34 := Lib.hid (HZ3.out.1.kp (HKD.out.trans k4))
  have HDi := Lib.hid (ldiscs_any Z4 a4 c4 64 w4 hZ4 lZ4 (HT.out.kp HK4.out))
  rw [exL_discs pZ4 oZ4] at HDi
  clear hZ4 pZ4 oZ4 lZ4 k4 HPo HV3 HK3 HKD
  go_wp2_with fail
  go_fit HDi.out
  rintro e w5 ⟨a5, Z5, c5, rfl, hZ5, pZ5, vZ5, lZ5, k5⟩
  have HK5 := Lib.hid (HK4.out.trans k5)
  have HV5 := Lib.hid (HV4.out.kp k5)
  have HZ35 := Lib.hid (HZ34.out.kp k5)
  have HZ5 := Lib.hid (And.intro hZ5 (And.intro pZ5 vZ5))
  have HL5 := Lib.hid lZ5
  have HPo := Lib.hid (show Calls Tryz.prog 17 #[.slice (some ⟨w.heap.size + 1 + 1 + 1 + 1 + 1, 0, none⟩) 2 2] w5 (MatV w5 (intP [[1, -1], [-1, 2]])) from points8_any [[1, -1], [-1, 2]] 2 _ 2 _ HV5.out (rectZ_two (by decide) (by decide) (by decide) (by decide)))
  clear hZ5 pZ5 vZ5 lZ5 k5 HDi HV4 HK4 HZ34
  go_wp2_with fail
  go_fit HPo.out
  rintro e w6 ⟨a6, Z6, c6, rfl, hZ6, pZ6, oZ6, lZ6, k6⟩
  have HEq := Lib.hid (equal8_any Z3 Z6 a3 a6 c3 c6 w6 (HZ35.out.kp k6) hZ6 HL3.out)
  rw [eqM8_pl (HZ35.out.kp k6) hZ6 HZ3.out.2.2 oZ6 (HZ3.out.2.1.trans pZ6.symm)] at HEq
  have HK6 := Lib.hid (HK5.out.trans k6)
  have HZ56 := Lib.hid (HZ5.out.1.kp k6)
  clear hZ6 pZ6 oZ6 lZ6 k6 HPo HV5 HK5 HZ35
  go_wp2_with fail
  go_fit HEq.out
  rintro e w7 ⟨rfl, k7⟩
  have HK7 := Lib.hid (HK6.out.trans k7)
  have HZ57 := Lib.hid (HZ56.out.kp k7)
  clear k7 HEq HK6 HZ56
  go_wp2_with fail
  go_fit (d8_any (-4) _ (by decide))
  rintro e v1 ⟨y1, rfl, oy1, dy1, j1⟩
  replace HK7 := Lib.hid (HK7.out.trans j1)
  replace HZ57 := Lib.hid (HZ57.out.kp j1)
  have H1 := Lib.hid (And.intro oy1 dy1)
  clear oy1 dy1 j1
  go_wp2_with fail
  go_fit (d8_any (-2) _ (by decide))
  rintro e v2 ⟨y2, rfl, oy2, dy2, j2⟩
  replace HK7 := Lib.hid (HK7.out.trans j2)
  replace HZ57 := Lib.hid (HZ57.out.kp j2)
  replace H1 := Lib.hid (And.intro (H1.out.1.kp j2) H1.out.2)
  have H2 := Lib.hid (And.intro oy2 dy2)
  clear oy2 dy2 j2
  go_wp2_with fail
  go_fit (d8_any (-3) _ (by decide))
  rintro e v3 ⟨y3, rfl, oy3, dy3, j3⟩
  replace HK7 := Lib.hid (HK7.out.trans j3)
  replace HZ57 := Lib.hid (HZ57.out.kp j3)
  replace H1 := Lib.hid (And.intro (H1.out.1.kp j3) H1.out.2)
  replace H2 := Lib.hid (And.intro (H2.out.1.kp j3) H2.out.2)
  have H3 := Lib.hid (And.intro oy3 dy3)
  clear oy3 dy3 j3
  go_wp2_with fail
  go_fit (d8_any (-1) _ (by decide))
  rintro e v4 ⟨y4, rfl, oy4, dy4, j4⟩
  replace HK7 := Lib.hid (HK7.out.trans j4)
  replace HZ57 := Lib.hid (HZ57.out.kp j4)
  replace H1 := Lib.hid (And.intro (H1.out.1.kp j4) H1.out.2)
  replace H2 := Lib.hid (And.intro (H2.out.1.kp j4) H2.out.2)
  replace H3 := Lib.hid (And.intro (H3.out.1.kp j4) H3.out.2)
  have kE := (Kp.refl v4).alloc (.cells #[.bool (RI.mk y1 y2 false).lo.neg, .slice (RI.mk y1 y2 false).lo.a (RI.mk y1 y2 false).lo.xs.length (RI.mk y1 y2 false).lo.c, .int .i64 (RI.mk y1 y2 false).lo.e, .bool (RI.mk y1 y2 false).hi.neg, .slice (RI.mk y1 y2 false).hi.a (RI.mk y1 y2 false).hi.xs.length (RI.mk y1 y2 false).hi.c, .int .i64 (RI.mk y1 y2 false).hi.e, .bool (RI.mk y1 y2 false).all, .bool (RI.mk y3 y4 false).lo.neg, .slice (RI.mk y3 y4 false).lo.a (RI.mk y3 y4 false).lo.xs.length (RI.mk y3 y4 false).lo.c, .int .i64 (RI.mk y3 y4 false).lo.e, .bool (RI.mk y3 y4 false).hi.neg, .slice (RI.mk y3 y4 false).hi.a (RI.mk y3 y4 false).hi.xs.length (RI.mk y3 y4 false).hi.c, .int .i64 (RI.mk y3 y4 false).hi.e, .bool (RI.mk y3 y4 false).all] 44)
  have hE := rowI_twoR v4 ⟨y1, y2, false⟩ ⟨y3, y4, false⟩ ⟨H1.out.1.1, H2.out.1.1⟩ ⟨H3.out.1.1, oy4.1⟩ 44
  have HQ := Lib.hid (show Calls Tryz.prog 14 #[.slice a5 Z5.length c5, .slice (some ⟨v4.heap.size, 0, none⟩) 2 2, .func (.func 15) #[] #[]] _ _ from eqrow8_any Z5 [⟨y1, y2, false⟩, ⟨y3, y4, false⟩] a5 _ c5 2 _ (HZ57.out.kp kE) hE HL5.out)
  rw [eqR8_pl (HZ57.out.kp kE) hE HZ5.out.2.2 (fun z hz => by
    simp only [List.mem_cons, List.not_mem_nil, or_false] at hz
    rcases hz with rfl | rfl
    · exact vl_int H1.out.1 H2.out.1 H1.out.2 H2.out.2 (by decide)
    · exact vl_int H3.out.1 oy4 H3.out.2 dy4 (by decide)) (HZ5.out.2.1.trans (by
    show _ = [RI.pl ⟨y1, y2, false⟩, RI.pl ⟨y3, y4, false⟩]
    rw [pl_int H1.out.2 H2.out.2, pl_int H3.out.2 dy4]))] at HQ
  have HKE := Lib.hid (HK7.out.trans kE)
  clear hE kE oy4 dy4 j4
  go_wp2_with fail
  go_fit HQ.out
  rintro e v5 ⟨rfl, k5⟩
  go_wp2_with fail
  go_ret
  exact ⟨rfl, HKE.out.trans k5⟩
theorem ger_row {p q r x y z : Int} (h : p * x + q * y + r * z = 0) (hy : y.natAbs ≤ x.natAbs) (hz : z.natAbs ≤ x.natAbs) (hx : x ≠ 0) (hd : q.natAbs + r.natAbs < p.natAbs) : False := by
  have h1 : p.natAbs * x.natAbs = (q * y + r * z).natAbs := by
    rw [← Int.natAbs_mul]
    have : p * x = -(q * y + r * z) := by omega
    rw [this, Int.natAbs_neg]
  have h2 : (q * y + r * z).natAbs ≤ q.natAbs * y.natAbs + r.natAbs * z.natAbs := by
    rw [← Int.natAbs_mul, ← Int.natAbs_mul]
    exact Int.natAbs_add_le _ _
  have h3 := Nat.mul_le_mul_left q.natAbs hy
  have h4 := Nat.mul_le_mul_left r.natAbs hz
  have h5 : (q.natAbs + r.natAbs) * x.natAbs < p.natAbs * x.natAbs := Nat.mul_lt_mul_of_pos_right hd (by omega)
  rw [Nat.add_mul] at h5
  omega
theorem ger_two {a b c d : Int} (h : a * d - b * c = 0) (h0 : b.natAbs < a.natAbs) (h1 : c.natAbs < d.natAbs) : False := by
  have h2 : (a * d).natAbs = (b * c).natAbs := by
    have : a * d = b * c := by omega
    rw [this]
  rw [Int.natAbs_mul, Int.natAbs_mul] at h2
  have h3 : b.natAbs * c.natAbs < a.natAbs * d.natAbs := Nat.lt_of_le_of_lt (Nat.mul_le_mul_left _ (Nat.le_of_lt h1)) (Nat.mul_lt_mul_of_pos_right h0 (by omega))
  omega
theorem ger_three {a b c d e f g h i : Int} (hdet : a * (e * i - f * h) + b * (f * g - d * i) + c * (d * h - e * g) = 0)
    (h0 : b.natAbs + c.natAbs < a.natAbs) (h1 : d.natAbs + f.natAbs < e.natAbs) (h2 : g.natAbs + h.natAbs < i.natAbs) : False := by
  have r1 : d * (e * i - f * h) + e * (f * g - d * i) + f * (d * h - e * g) = 0 := by
    simp only [Int.mul_sub, Int.mul_left_comm]
    omega
  have r2 : g * (e * i - f * h) + h * (f * g - d * i) + i * (d * h - e * g) = 0 := by
    simp only [Int.mul_sub, Int.mul_left_comm, Int.mul_comm]
    omega
  have hx : e * i - f * h ≠ 0 := fun hz => ger_two hz (by omega) (by omega)
  generalize e * i - f * h = x at *
  generalize f * g - d * i = y at *
  generalize d * h - e * g = z at *
  by_cases m1 : y.natAbs ≤ x.natAbs ∧ z.natAbs ≤ x.natAbs
  · exact ger_row hdet m1.1 m1.2 hx h0
  by_cases m2 : z.natAbs ≤ y.natAbs
  · refine ger_row (p := e) (q := d) (r := f) (x := y) (y := x) (z := z) (by omega) (by omega) m2 (by omega) h1
  refine ger_row (p := i) (q := g) (r := h) (x := z) (y := x) (z := y) (by omega) (by omega) (by omega) (by omega) h2
def offS (i : Nat) : List Int → Nat → Int
  | [], _ => 0
  | m :: r, k => (if k = i then 0 else (m.natAbs : Int)) + offS i r (k + 1)
theorem offS_pos (i : Nat) : ∀ (l : List Int) (k : Nat), 0 ≤ offS i l k
  | [], k => Int.le_refl 0
  | m :: r, k => by
    have := offS_pos i r (k + 1)
    unfold offS
    split <;> omega
theorem dscS_int {i : Nat} : ∀ (l : List Int) (k : Nat) (s : Int), 0 ≤ s → s + offS i l k ≤ 200 → (∀ m ∈ l, m.natAbs ≤ 100) → dscS 64 i (l.map fun m => pnI m m) k (intD s) = some (intD (s + offS i l k))
  | [], k, s, _, _, _ => by unfold offS; rw [Int.add_zero]; rfl
  | m :: r, k, s, h0, hb, hm => by
    have h1 := offS_pos i r (k + 1)
    have hmm := hm m (.head _)
    have hr := fun x hx => hm x (.tail _ hx)
    show dscS 64 i (pnI m m :: r.map fun m => pnI m m) k (intD s) = _
    unfold dscS
    rw [if_neg (by show ¬ (false = true); decide)]
    unfold offS at hb ⊢
    by_cases hk : k = i
    · rw [if_pos hk] at hb ⊢
      rw [if_pos hk, dscS_int r (k + 1) s h0 (by omega) hr, Int.zero_add]
    · rw [if_neg hk] at hb ⊢
      have e1 : magP (pnI m m) = intD (m.natAbs : Int) := by rw [magP_int (by omega) (by omega), if_pos (Nat.le_refl _)]
      have e2 : adP (intD s) (intD (m.natAbs : Int)) 64 true = (intD (s + m.natAbs), 0) := adP_int (by decide) (by decide) (cast_lt (k := 8) (show (s + (m.natAbs : Int)).natAbs < 256 by omega) (by decide)) true
      rw [if_neg hk, e1, e2]
      show (if (0 : Int) ≠ 0 then none else dscS 64 i (r.map fun m => pnI m m) (k + 1) (intD (s + m.natAbs))) = _
      rw [if_neg (by decide), dscS_int r (k + 1) (s + m.natAbs) (by omega) (by omega) hr, Int.add_assoc]
theorem dscF_int {i : Nat} {l : List Int} {m : Int} (hi : l[i]? = some m) (hb : offS i l 0 ≤ 200) (hm : ∀ m ∈ l, m.natAbs ≤ 100) : dscF 64 (l.map fun m => pnI m m) i = pnI (m - offS i l 0) (m + offS i l 0) := by
  have h0 := offS_pos i l 0
  have h1 := dscS_int (i := i) l 0 0 (Int.le_refl 0) (by omega) hm
  rw [intD_zero, Int.zero_add] at h1
  have hmm := hm m (List.mem_of_getElem? hi)
  unfold dscF
  rw [h1, List.getD_eq_getElem?_getD, List.getElem?_map, hi]
  show mkI (adP (intD m) (intD (offS i l 0)).opp 64 false) (adP (intD m) (intD (offS i l 0)) 64 true) = _
  rw [opp_int (by omega), adP_int (by decide) (by decide) (cast_lt (k := 9) (show (m + -offS i l 0).natAbs < 512 by omega) (by decide)), adP_int (by decide) (by decide) (cast_lt (k := 9) (show (m + offS i l 0).natAbs < 512 by omega) (by decide))]
  unfold mkI
  rw [if_neg (by simp), ← Int.sub_eq_add_neg]
  rfl
theorem hasX_int {a b v : Int} (h1 : a ≤ v) (h2 : v ≤ b) : hasX (pnI a b) (intD v).iv = true := hasX_of (.inr ⟨intD_le h1, intD_le h2⟩)
end Go.Proofs.YtpocjagbhiahdaaGreatDoor
