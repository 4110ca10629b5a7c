/-
  Walks: the eighth reference's Discs.
-/
import Derived.Deep.DeepFit
import Derived.Deep.LoopGhost
import Derived.Test.YtpocjagbhiahdaaGreatDoorMR3A
import Derived.Test.YtpocjagbhiahdaaGreatDoorMR8D
namespace Go.Proofs.YtpocjagbhiahdaaGreatDoor
open Go.RowKit

set_option maxRecDepth 100000 in
set_option maxHeartbeats 8000000 in
theorem r8discs_any (m : List (List RI)) (a : Option Addr) (c : Nat) (p : Int) (w : World) (hm : RowM w a m) (hl : m.length ≤ 1100000) :
    Calls Tryz.prog 13 #[.slice a m.length c, .int .i64 p] w (DisE w (dscC m p).1 (dscC m p).2) := by
  have HM := Lib.hid hm
  obtain ⟨D, hD⟩ : ∃ D, D = dscC m p := ⟨_, rfl⟩
  have HD := Lib.hid hD
  rw [← hD]
  clear hm hD
  go_enter Tryz.func13, Tryz.ntmps13
  go_wp2_with fail
  go_fit (r8case_any m a c p _ HM.out hl)
  rintro e w1 ⟨rfl, k1⟩
  cases hs : (sqM m && preB p) with
  | false =>
    have HE := Lib.hid (show D = ([], 1) by
      rw [HD.out]; unfold dscC
      rw [if_neg (by rw [Bool.and_comm, show (vlM m && decide (m.length = colsM m)) = sqM m from rfl, hs]; decide)])
    clear hs
    go_wp2_with fail
    rw [HE.out]
    refine bodyPost_ret (v := .tuple #[.slice none 0 0, .int .i64 1]) (by simp [results, Tryz.results13, go_sem]) rfl ?_
    exact disE_nil rfl k1
  | true =>
  have HP := Lib.hid (show preB p = true from (Bool.and_eq_true _ _ ▸ hs).2)
  replace hs := (Bool.and_eq_true _ _ ▸ hs).1
  have hs' := hs
  unfold sqM at hs'
  rw [Bool.and_eq_true, decide_eq_true_eq] at hs'
  have HS := Lib.hid hs'
  have HVM := Lib.hid hs'.1
  obtain ⟨q, hq⟩ : ∃ q : Nat, q = p.toNat := ⟨_, rfl⟩
  have hpq : p = (q : Int) := by have := preB_iff.1 HP.out; omega
  have hq0 : 8 ≤ q := by have := preB_iff.1 HP.out; omega
  have hq1 : q ≤ 512 := by have := preB_iff.1 HP.out; omega
  obtain ⟨F, hF⟩ : ∃ F : Nat → PI, F = fun i => dscF q (plR (m.getD i [])) i := ⟨_, rfl⟩
  have HE := Lib.hid (show D = (rowF m.length F, 0) by
    rw [HD.out]; unfold dscC
    rw [HP.out, show (vlM m && decide (m.length = colsM m)) = true from hs, hF, hq]; rfl)
  have HF := Lib.hid hF
  have hml := (vlM_iff.1 HVM.out).1
  have HML := Lib.hid hml
  have HQ := Lib.hid hq
  have HK1 := Lib.hid k1
  rw [hpq]
  clear hs hs' hpq hq hF hml k1
  go_wp2_with fail
  go_loopg [6, 7] m.length (fun z v t wr => ∃ cur : List RI, cur.length + z = m.length ∧ t = .int .i64 (cur.length : Int) ∧ OwnN w1 wr v cur ∧ plR cur = rowF cur.length F ∧ ∀ x ∈ cur, x.vl = true)
  case atStart => exact ⟨[], by simp, rfl, OwnN.nil (Kp.refl _), rfl, fun x h => by simp at h⟩
  case round =>
  obtain ⟨cur, hcq, rfl, hown0, hpc, hvc⟩ := hrel
  have hk9 := hown0.1
  by_cases hlt : cur.length < m.length
  rotate_left
  · have hRe : cur.length = m.length := by omega
    obtain ⟨va, vc, rfl, hvc1, hvc2, hrm⟩ := hown0.value
    have HRe := Lib.hid (And.intro hRe (And.intro hrm (And.intro hpc hvc)))
    have HML8 := Lib.hid (show cur.length ≤ 1100000 by have := HML.out; omega)
    have HK9 := Lib.hid (HK1.out.trans hk9)
    clear hRe hcq hrm hpc hvc hown0 hk9
    go_wp2_with fail
    rw [HE.out]
    refine bodyPost_ret (v := .tuple #[.slice va cur.length vc, .int .i64 0]) (by simp [results, Tryz.results13, go_sem]) rfl ?_
    refine ⟨va, cur, vc, rfl, HRe.out.2.1, ?_, HRe.out.2.2.2, HML8.out, HK9.out⟩
    rw [HRe.out.2.2.1, HRe.out.1]
  obtain ⟨r, hr⟩ : ∃ r, m[cur.length]? = some r := ⟨_, List.getElem?_eq_getElem hlt⟩
  obtain ⟨b2, o2, ra2, rc2, rfl, hrc, hrow, hrl⟩ := HM.out cur.length r hr
  have hrcr := (HK1.out.trans hk9).cell hrc
  have HRW := Lib.hid (And.intro (hrow.kp (HK1.out.trans hk9)) (vlM_row HVM.out hr))
  have HG := Lib.hid (show dscF q (plR r) cur.length = F cur.length by
    rw [HF.out]
    show _ = dscF q (plR (m.getD cur.length [])) cur.length
    rw [List.getD_eq_getElem?_getD, hr]; rfl)
  have HPC := Lib.hid (And.intro hpc (And.intro hvc (And.intro hcq hlt)))
  have hk1 : (0 : Int) ≤ (cur.length : Int) := by omega
  have hk2 : (cur.length : Int) < (m.length : Int) := by omega
  have hcl : cur.length + 1 ≤ 9000000 := by omega
  have HOW := Lib.hid hown0
  have HRL := Lib.hid (show r.length = m.length by have := HRW.out.2.1; have := HS.out.2; omega)
  have HDI := Lib.hid (r8disc_any r ra2 rc2 cur.length q wr HRW.out.1 (by have := HRL.out; have := HML.out; omega) HRW.out.2.2 (by have := HRL.out; omega) hq0 hq1)
  clear hr hrc hrow hrl hpc hvc hcq hlt hown0 hk9
  go_wp2_with fail
  go_fit HDI.out
  rintro e v1 ⟨z, rfl, hz, hzp, hzv, j1⟩
  have hownA := HOW.out.kp (j1.alloc (.cells #[.bool z.lo.neg, .slice z.lo.a z.lo.xs.length z.lo.c, .int .i64 z.lo.e, .bool z.hi.neg, .slice z.hi.a z.hi.xs.length z.hi.c, .int .i64 z.hi.e, .bool z.all] 44))
  have hzA := hz.kp ((Kp.refl v1).alloc (.cells #[.bool z.lo.neg, .slice z.lo.a z.lo.xs.length z.lo.c, .int .i64 z.lo.e, .bool z.hi.neg, .slice z.hi.a z.hi.xs.length z.hi.c, .int .i64 z.hi.e, .bool z.all] 44))
  have ZP := Lib.hid (And.intro (hzp.trans HG.out) hzv)
  clear hz hzp hzv j1 hrcr
  go_wp2_with (at_builtin; refine wpList_append_ivg rfl _ _ rfl w1 _ cur rfl hownA _ _ rfl z hzA (by simp) hcl ?_; intro a' c' w9 hown9 hgrow hblk)
  go_roundg (gk - 1)
  case measure => have := HPC.out.2.2; omega
  case rel =>
  refine ⟨cur ++ [z], by have := HPC.out.2.2; rw [List.length_append, List.length_singleton]; omega, by rw [List.length_append, List.length_singleton]; go_num, by simpa using hown9, ?_, ok_snoc HPC.out.2.1 ZP.out.2⟩
  rw [plR_snoc, HPC.out.1, List.length_append, List.length_singleton, rowF_snoc, ZP.out.1]
end Go.Proofs.YtpocjagbhiahdaaGreatDoor
