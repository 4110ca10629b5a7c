/-
  Walks: matrix.Identity.
-/
import Derived.Deep.RegionLaw
import Derived.Test.YtdidocdpjiiedaaGreatDoorMIdnL
namespace Go.Proofs.YtdidocdpjiiedaaGreatDoor
open Go.RowKit

theorem pInt0_any (w : World) (hT : Tab w) : Calls Tryz.prog 98 #[.int .i64 0] w fun e w' => ∃ y : RD, e = .returned (.agg #[.bool y.neg, .slice y.a y.xs.length y.c, .int .i64 y.e]) ∧ y.ok w' ∧ y.dy = intD 0 ∧ Kp w w' := pIntR_any 0 w (by decide) hT
theorem pInt1_any (w : World) (hT : Tab w) : Calls Tryz.prog 98 #[.int .i64 1] w fun e w' => ∃ y : RD, e = .returned (.agg #[.bool y.neg, .slice y.a y.xs.length y.c, .int .i64 y.e]) ∧ y.ok w' ∧ y.dy = intD 1 ∧ Kp w w' := pIntR_any 1 w (by decide) hT
set_option maxRecDepth 100000 in
set_option maxHeartbeats 8000000 in
theorem midn_any (n : Nat) (w : World) (h1 : 1 ≤ n) (h8 : n ≤ 8) (hT : Tab w) :
    Calls Tryz.prog 41 #[.int .i64 n] w (MatV w (tabM n n idP)) := by
  have HT := Lib.hid hT
  have hn1 : ¬ ((n : Int) < 1) := by omega
  have hn8 : ¬ (8 < (n : Int)) := by omega
  obtain ⟨F, hF⟩ : ∃ F : Nat → Nat → PI, F = idP := ⟨_, rfl⟩
  have HF := Lib.hid hF
  rw [← hF]
  have hmk := make_rows (n : Int) n rfl (by omega)
  clear hT hF
  go_enter Tryz.func41, Tryz.ntmps41
  go_wp2_with fail
  have hO := OutH.made w n
  have hk1 := (Kp.refl w).alloc (.cells (madeCells #[.slice none 0 0] n) 40)
  generalize hW1 : w.alloc _ = W1 at *
  have HK := Lib.hid (Kp.refl w)
  have HO := Lib.hid hO
  clear hW1 hmk hk1 hO hn1 hn8
  go_loopg [17] n (fun q v wr => ∃ R : List (List RI), R.length + q = n ∧ v = .int .i64 (R.length : Int) ∧ OutH w wr w.heap.size n R ∧ plM R = tabM R.length n F ∧ okM R)
  case atStart => exact ⟨[], by simp, rfl, HO.out, rfl, fun r h => by simp at h⟩
  case round =>
    obtain ⟨R, hRq, rfl, hO, hpl, hok⟩ := hrel
    clear HO
    have HH := Lib.hid (And.intro hpl hok)
    have HOH := Lib.hid hO
    have hkr := hO.2.1
    clear hpl hok hO
    by_cases hlt : R.length < n
    · have HMO := Lib.hid (HOH.out.open hlt)
      have Hlt := Lib.hid (And.intro hlt hRq)
      clear hRq
      have hj1 : (0 : Int) ≤ (R.length : Int) := by omega
      have hj2 : (R.length : Int) < (n : Int) := by omega
      go_wp2_with fail
      clear HOH
      obtain ⟨gk1, hgk1⟩ : ∃ x : Nat, x = gk := ⟨_, rfl⟩
      subst hgk1
      obtain ⟨wr1, hwr1⟩ : ∃ x : World, x = wr := ⟨_, rfl⟩
      subst hwr1
      go_loopg [21] n (fun q v wr => ∃ (u : Value) (cur : List RI), cur.length + q = n ∧ v = .int .i64 (cur.length : Int) ∧ OutM w wr w.heap.size n R u cur ∧ plR cur = rowF cur.length (F R.length) ∧ ∀ x ∈ cur, x.vl = true)
      case atStart => exact ⟨_, [], by simp, rfl, HMO.out, rfl, fun x h => by simp at h⟩
      case round =>
        obtain ⟨u, cur, hcq, rfl, hM, hpc, hvc⟩ := hrel
        clear HMO
        by_cases hlt2 : cur.length < n
        · have HPC := Lib.hid (And.intro hpc (And.intro hvc (And.intro hcq hlt2)))
          clear hpc hvc hcq
          by_cases hij : R.length = cur.length
          · have heq : ((R.length : Int) == (cur.length : Int)) = true := by rw [hij]; simp
            have HIJ := Lib.hid hij
            clear hij
            have HP := Lib.hid (show pnI 1 1 = F R.length cur.length by rw [HF.out]; show _ = idP _ _; unfold idP; rw [if_pos HIJ.out])
            go_upto_region 13 with fail
            have kd := (Kp.refl wr).drew
            have kk := HK.out.trans hM.2.1.1
            have hM3 := hM.kp kd
            have hcell := hM3.cellF
            obtain ⟨hc1, hf1⟩ := id hcell
            have HM3 := Lib.hid hM3
            have HT3 := Lib.hid (HT.out.kp (kk.trans kd))
            have hcl : cur.length + 1 ≤ 9000000 := by omega
            clear hM hM3 kd hcell kk
            go_region_law (first
              | (go_simp; go_at_call 98; (with_reducible refine (pInt1_any _ HT3.out).mono ?_); rintro e v1 ⟨y, rfl, hy, hyd, j1⟩
                 have hM4 := HM3.out.kp j1
                 obtain ⟨hc1, hf1⟩ := hM4.cellF
                 have HY := Lib.hid (And.intro hy hyd)
                 clear hM4 hy hyd)
              | (go_simp; go_at_call 97; (with_reducible refine (IPoint_pt y _ HY.out.1).mono ?_); rintro e v2 ⟨rfl, j2⟩
                 have kY := j2.alloc (.cells #[.bool (ptI y).lo.neg, .slice (ptI y).lo.a (ptI y).lo.xs.length (ptI y).lo.c, .int .i64 (ptI y).lo.e, .bool (ptI y).hi.neg, .slice (ptI y).hi.a (ptI y).hi.xs.length (ptI y).hi.c, .int .i64 (ptI y).hi.e, .bool (ptI y).all] 43)
                 have hM4 := HM3.out.kp (j1.trans j2)
                 obtain ⟨hc1, hf1⟩ := hM4.cellF
                 have hM5 := HM3.out.kp (j1.trans kY)
                 obtain ⟨hc1, hf1⟩ := hM5.cellF
                 have hown := hM5.2.1
                 have hzO := ptI_ok (HY.out.1.kp kY)
                 have hzA := ptI_rd (HY.out.1.kp kY).1
                 have HZ := Lib.hid (And.intro (show (ptI y).pl = pnI 1 1 by show PI.mk y.dy y.dy false = _; rw [HY.out.2]; rfl) hzO.2.2)
                 have HM5 := Lib.hid hM5
                 clear kY hM5 hM4 hzO)
              | (refine step_append_ivg (by rfl) _ _ (by rfl) w u cur (by rfl) hown _ _ (by rfl) (ptI y) hzA (by simp) hcl ?_; intro a' c' w9 hown9 hgrow hblk
                 obtain ⟨hc1, hf1⟩ := HM5.out.cellG hgrow)
              | fail)
            all_goals
              have hst := OutM.step HM5.out hown9 hgrow hblk HM5.out.2.1.noU
              go_wp2_with fail
              go_roundg (gk - 1)
              case measure => have := HPC.out.2.2; omega
              case rel =>
                refine ⟨_, cur ++ [ptI y], by have := HPC.out.2.2; rw [List.length_append, List.length_singleton]; omega, by rw [List.length_append, List.length_singleton]; go_num, hst, ?_, ok_snoc HPC.out.2.1 HZ.out.2⟩
                rw [plR_snoc, HPC.out.1, List.length_append, List.length_singleton, rowF_snoc, HZ.out.1, HP.out]
          · have heq : ((R.length : Int) == (cur.length : Int)) = false := beq_eq_false_iff_ne.2 (by omega)
            have HIJ := Lib.hid hij
            clear hij
            have HP := Lib.hid (show pnI 0 0 = F R.length cur.length by rw [HF.out]; show _ = idP _ _; unfold idP; rw [if_neg HIJ.out])
            go_upto_region 13 with fail
            have kd := (Kp.refl wr).drew
            have kk := HK.out.trans hM.2.1.1
            have hM3 := hM.kp kd
            have hcell := hM3.cellF
            obtain ⟨hc1, hf1⟩ := id hcell
            have HM3 := Lib.hid hM3
            have HT3 := Lib.hid (HT.out.kp (kk.trans kd))
            have hcl : cur.length + 1 ≤ 9000000 := by omega
            clear hM hM3 kd hcell kk
            go_region_law (first
              | (go_simp; go_at_call 98; (with_reducible refine (pInt0_any _ HT3.out).mono ?_); rintro e v1 ⟨y, rfl, hy, hyd, j1⟩
                 have hM4 := HM3.out.kp j1
                 obtain ⟨hc1, hf1⟩ := hM4.cellF
                 have HY := Lib.hid (And.intro hy hyd)
                 clear hM4 hy hyd)
              | (go_simp; go_at_call 97; (with_reducible refine (IPoint_pt y _ HY.out.1).mono ?_); rintro e v2 ⟨rfl, j2⟩
                 have kY := j2.alloc (.cells #[.bool (ptI y).lo.neg, .slice (ptI y).lo.a (ptI y).lo.xs.length (ptI y).lo.c, .int .i64 (ptI y).lo.e, .bool (ptI y).hi.neg, .slice (ptI y).hi.a (ptI y).hi.xs.length (ptI y).hi.c, .int .i64 (ptI y).hi.e, .bool (ptI y).all] 43)
                 have hM4 := HM3.out.kp (j1.trans j2)
                 obtain ⟨hc1, hf1⟩ := hM4.cellF
                 have hM5 := HM3.out.kp (j1.trans kY)
                 obtain ⟨hc1, hf1⟩ := hM5.cellF
                 have hown := hM5.2.1
                 have hzO := ptI_ok (HY.out.1.kp kY)
                 have hzA := ptI_rd (HY.out.1.kp kY).1
                 have HZ := Lib.hid (And.intro (show (ptI y).pl = pnI 0 0 by show PI.mk y.dy y.dy false = _; rw [HY.out.2]; rfl) hzO.2.2)
                 have HM5 := Lib.hid hM5
                 clear kY hM5 hM4 hzO)
              | (refine step_append_ivg (by rfl) _ _ (by rfl) w u cur (by rfl) hown _ _ (by rfl) (ptI y) hzA (by simp) hcl ?_; intro a' c' w9 hown9 hgrow hblk
                 obtain ⟨hc1, hf1⟩ := HM5.out.cellG hgrow)
              | fail)
            all_goals
              have hst := OutM.step HM5.out hown9 hgrow hblk HM5.out.2.1.noU
              go_wp2_with fail
              go_roundg (gk - 1)
              case measure => have := HPC.out.2.2; omega
              case rel =>
                refine ⟨_, cur ++ [ptI y], by have := HPC.out.2.2; rw [List.length_append, List.length_singleton]; omega, by rw [List.length_append, List.length_singleton]; go_num, hst, ?_, ok_snoc HPC.out.2.1 HZ.out.2⟩
                rw [plR_snoc, HPC.out.1, List.length_append, List.length_singleton, rowF_snoc, HZ.out.1, HP.out]
        · have hce : cur.length = n := by omega
          have hcl : cur.length ≤ 1100000 := by omega
          have hcc := Lib.hid (hM.close hcl)
          have HPC := Lib.hid (And.intro hpc (And.intro hvc hce))
          clear hpc hvc hcq hM hce hcl
          go_wp2_with fail
          go_roundg (gk1 - 1)
          case measure => have := Hlt.out; omega
          case rel =>
            refine ⟨R ++ [cur], by have := Hlt.out; rw [List.length_append, List.length_singleton]; omega, by rw [List.length_append, List.length_singleton]; go_num, hcc.out, ?_, okM_snoc HH.out.2 HPC.out.2.1⟩
            rw [plM_snoc, HH.out.1, List.length_append, List.length_singleton, tabM_snoc, HPC.out.1, HPC.out.2.2]
    · have hRe : R.length = n := by omega
      have HRe := Lib.hid hRe
      clear hRe hRq
      go_wp2_with fail
      refine bodyPost_ret (v := .slice (some ⟨w.heap.size, 0, none⟩) n n) (by simp [results, Tryz.results41, go_sem]) rfl ?_
      refine ⟨_, R, n, by rw [HRe.out], HOH.out.rowM, ?_, HH.out.2, by have := HRe.out; omega, hkr⟩
      rw [HH.out.1, HRe.out]
end Go.Proofs.YtdidocdpjiiedaaGreatDoor
