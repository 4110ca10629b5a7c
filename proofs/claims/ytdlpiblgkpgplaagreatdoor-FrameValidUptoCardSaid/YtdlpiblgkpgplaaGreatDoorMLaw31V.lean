/-
  Walks: the law FrameValid.
-/
import Derived.Deep.DeepFit
import Derived.Deep.RegionHeld3
import Derived.Deep.RegionWith
import Derived.Test.YtdlpiblgkpgplaaGreatDoorMAwkF
import Derived.Test.YtdlpiblgkpgplaaGreatDoorMSmF
import Derived.Test.YtdlpiblgkpgplaaGreatDoorMR31V
namespace Go.Proofs.YtdlpiblgkpgplaaGreatDoor
open Go.RowKit

set_option maxRecDepth 100000 in
set_option maxHeartbeats 8000000 in
theorem FValid_ok (f : RF) (w : World) (hf : f.rd w) (hT : Tab w) :
    Calls Tryz.prog 3 #[.agg #[.slice f.ca f.cs.length f.cc, .slice f.aa f.ms.length f.ac, .slice f.ra f.rs.length f.rc]] w fun e w' => e = .returned (.bool true) ∧ Kp w w' := by
  have kk := (Kp.refl w).alloc (.cells #[.slice f.ca f.cs.length f.cc, .slice f.aa f.ms.length f.ac, .slice f.ra f.rs.length f.rc] 26)
  have HF := Lib.hid hf
  have HT := Lib.hid hT
  clear hf hT
  go_enter Tryz.func3, Tryz.ntmps3
  go_upto_region 1 with fail
  generalize hW : w.alloc _ = W at *
  have HS := Lib.hid (show W.cell? ⟨w.heap.size, 0, none⟩ = some (.slice f.ca f.cs.length f.cc) ∧ W.cell? ⟨w.heap.size, 1, none⟩ = some (.slice f.aa f.ms.length f.ac) ∧ W.cell? ⟨w.heap.size, 2, none⟩ = some (.slice f.ra f.rs.length f.rc) by rw [← hW]; simp)
  clear hW
  go_wp2_with fail
  go_fit (awakeF_any _ (HT.out.kp kk))
  rintro e w1 ⟨rfl, k1⟩
  have HK1 := Lib.hid (kk.trans k1)
  have HS1 := Lib.hid (keepF k1 HS.out)
  clear kk k1
  go_upto_region 3 with fail
  have kd := (Kp.refl w1).drew
  have HSd := Lib.hid (keepF kd HS1.out)
  have hSd := HSd.out
  have HK := Lib.hid (HK1.out.trans kd)
  have HG := Lib.hid (greatF_any f _ (HF.out.kp HK.out))
  clear kd
  cases hg : greatF f with
  | true =>
    rw [hg] at HG
    clear hg
    obtain ⟨s0, s1, s2⟩ := hSd
    go_region_with (first
      | (go_at_call 7; (with_reducible refine HG.out.mono ?_); rintro e v1 ⟨rfl, j1⟩
         obtain ⟨s0, s1, s2⟩ := keepF j1 HSd.out)
      | fail)
    all_goals
      go_wp2_with fail
      go_ret
      exact ⟨rfl, HK.out.trans j1⟩
  | false =>
    rw [hg] at HG
    clear hg
    go_region_held3 (fun w' => w'.cell? ⟨w.heap.size, 0, none⟩ = some (.slice f.ca f.cs.length f.cc) ∧ w'.cell? ⟨w.heap.size, 1, none⟩ = some (.slice f.aa f.ms.length f.ac) ∧ w'.cell? ⟨w.heap.size, 2, none⟩ = some (.slice f.ra f.rs.length f.rc)) (first | with_reducible assumption | with_reducible exact keepF (by assumption) (by assumption) | fail)
      (first
        | (go_at_call 7; (with_reducible refine HG.out.mono ?_); rintro e v1 ⟨rfl, j1⟩
           have HJ := Lib.hid (HK.out.trans j1)
           have HV1 := Lib.hid (fval_any f _ (HF.out.kp HJ.out)))
        | (go_at_call 8; (with_reducible refine HV1.out.mono ?_); rintro e v2 ⟨rfl, j2⟩
           have HJ2 := Lib.hid (HJ.out.trans j2)
           have HV2 := Lib.hid (r31valid_any f _ (HF.out.kp HJ2.out))
           clear j1)
        | (go_at_call 9; (with_reducible refine HV2.out.mono ?_); rintro e v3 ⟨rfl, j3⟩
           have HJ3 := Lib.hid (HJ2.out.trans j3)
           clear j2)
        | fail)
    all_goals
      go_wp2_with fail
      go_ret
      exact ⟨by simp, HJ3.out⟩
end Go.Proofs.YtdlpiblgkpgplaaGreatDoor
