/-
  Walks: matrix.Mul.
-/
import Derived.Deep.AppendLies
import Derived.Test.YtpocjagbhiahdaaGreatDoorMIvM
import Derived.Test.YtpocjagbhiahdaaGreatDoorMR2I
import Derived.Deep.RegionLaw
import Derived.Deep.DeepFit
import Derived.Laws.EntriesVeiled
import Derived.Test.YtpocjagbhiahdaaGreatDoorMIdxN
import Derived.Test.YtpocjagbhiahdaaGreatDoorMIvA
import Derived.Test.YtpocjagbhiahdaaGreatDoorMRoA
import Derived.Test.YtpocjagbhiahdaaGreatDoorMRoAdd
import Derived.Deep.LoopGhost
import Derived.Test.YtpocjagbhiahdaaGreatDoorMOwnX
namespace Go.Proofs.YtpocjagbhiahdaaGreatDoor
open Go.RowKit
def MatE (w : World) (X : List (List PI)) (f : Int) (e : Ending) (w' : World) : Prop :=
  ∃ (a : Option Addr) (Z : List (List RI)) (c : Nat), e = .returned (.tuple #[.slice a Z.length c, .int .i64 f]) ∧ RowM w' a Z ∧ plM Z = X ∧ okM Z ∧ Z.length ≤ 1100000 ∧ Kp w w'
theorem rowM_nil (w : World) (a : Option Addr) : RowM w a [] := fun i r h => by simp at h
theorem matE_nil {w w' : World} {f : Int} {e : Ending} (h : e = .returned (.tuple #[.slice none 0 0, .int .i64 f])) (k : Kp w w') : MatE w [] f e w' := ⟨none, [], 0, h, rowM_nil _ _, rfl, fun r h => by simp at h, by simp, k⟩
def mulC (m n : List (List RI)) (p : Int) : List (List PI) × Int :=
  if (!vlM m || !vlM n) = true then ([], 1) else if preB p = false then ([], 2) else if colsM m ≠ n.length then ([], 3) else (mulF m n p.toNat, 0)
theorem vlM_row0 {m : List (List RI)} (h : vlM m = true) : ∃ r, m[0]? = some r ∧ r.length = colsM m := by
  have h0 : 0 < m.length := (vlM_iff.1 h).1.1
  exact ⟨_, List.getElem?_eq_getElem h0, (vlM_row h (List.getElem?_eq_getElem h0)).1⟩
set_option maxRecDepth 100000 in
set_option maxHeartbeats 8000000 in
theorem mmul_any (a b : Option Addr) (m n : List (List RI)) (c d : Nat) (p : Int) (w : World) (hm : RowM w a m) (hn : RowM w b n) (hl : m.length ≤ 1100000) (hl2 : n.length ≤ 1100000) (hT : Tab w) :
    Calls Tryz.prog 35 #[.slice a m.length c, .slice b n.length d, .int .i64 p] w (MatE w (mulC m n p).1 (mulC m n p).2) := by
  have HM := Lib.hid hm
  have HN := Lib.hid hn
  have HT := Lib.hid hT
  obtain ⟨D, hD⟩ : ∃ D, D = mulC m n p := ⟨_, rfl⟩
  have HD := Lib.hid hD
  rw [← hD]
  clear hm hn hT hD
  go_enter Tryz.func35, Tryz.ntmps35
  go_wp2_with fail
  generalize hW : w.alloc _ = W at *
  have hk : Kp w W := hW ▸ (Kp.refl w).alloc _
  have hbox : W.cell? ⟨w.heap.size, 0, none⟩ = some (.slice b n.length d) := by rw [← hW]; simp
  clear hW
  go_fit (mvalid_any a m c _ (HM.out.kp hk) hl)
  rintro e w1 ⟨rfl, k1⟩
  have hk1 := hk.trans k1
  have hbox1 := k1.cell hbox
  clear hk hbox k1
  cases hvm : vlM m with
  | false =>
    have HE := Lib.hid (show D = ([], 1) by rw [HD.out]; unfold mulC; rw [hvm]; rfl)
    clear hvm
    go_wp2_with fail
    rw [HE.out]
    refine bodyPost_ret (v := .tuple #[.slice none 0 0, .int .i64 1]) (by simp [results, Tryz.results35, go_sem]) rfl ?_
    exact matE_nil rfl hk1
  | true =>
  have HVM := Lib.hid hvm
  clear hvm
  go_wp2_with fail
  go_fit (mvalid_any b n d _ (HN.out.kp hk1) hl2)
  rintro e w2 ⟨rfl, k2⟩
  have hk2 := hk1.trans k2
  have hbox2 := k2.cell hbox1
  clear hk1 hbox1 k2
  cases hvn : vlM n with
  | false =>
    have HE := Lib.hid (show D = ([], 1) by rw [HD.out]; unfold mulC; rw [HVM.out, hvn]; rfl)
    clear hvn
    go_wp2_with fail
    rw [HE.out]
    refine bodyPost_ret (v := .tuple #[.slice none 0 0, .int .i64 1]) (by simp [results, Tryz.results35, go_sem]) rfl ?_
    exact matE_nil rfl hk2
  | true =>
  have HVN := Lib.hid hvn
  clear hvn
  go_wp2_with fail
  go_fit (mprecise_any p _)
  rintro e w3 ⟨rfl, rfl⟩
  cases hp : preB p with
  | false =>
    have HE := Lib.hid (show D = ([], 2) by rw [HD.out]; unfold mulC; rw [HVM.out, HVN.out, hp]; rfl)
    clear hp
    go_wp2_with fail
    rw [HE.out]
    refine bodyPost_ret (v := .tuple #[.slice none 0 0, .int .i64 2]) (by simp [results, Tryz.results35, go_sem]) rfl ?_
    exact matE_nil rfl hk2
  | true =>
  have HP := Lib.hid hp
  clear hp
  obtain ⟨r0, hr0, hc0⟩ := vlM_row0 HVM.out
  obtain ⟨s0, hs0, hd0⟩ := vlM_row0 HVN.out
  have hml := (vlM_iff.1 HVM.out).1
  have hmc := (vlM_iff.1 HVM.out).2.1
  have hnl := (vlM_iff.1 HVN.out).1
  have hnc := (vlM_iff.1 HVN.out).2.1
  obtain ⟨ba, oa, ra, rc, rfl, hrow, _⟩ := HM.out 0 r0 hr0
  obtain ⟨bb, ob, rb, rd, rfl, hrowb, _⟩ := HN.out 0 s0 hs0
  rw [Nat.add_zero] at hrow hrowb
  have hi1 : (0 : Int) < (m.length : Int) := by omega
  have hi2 : (0 : Int) < (n.length : Int) := by omega
  have HC0 := Lib.hid (And.intro hc0 hd0)
  have kd := (Kp.refl w2).drew
  have hrow2 := (hk2.trans kd).cell hrow
  have hrowb2 := Lib.hid (And.intro hrowb (hk2.cell hrowb))
  have hbox3 := kd.cell hbox2
  have hSd : w2.drew.cell? ⟨ba, oa, none⟩ = some (.slice ra r0.length rc) ∧ w2.drew.cell? ⟨w.heap.size, 0, none⟩ = some (.slice (some ⟨bb, ob, none⟩) n.length d) := ⟨hrow2, hbox3⟩
  replace hk2 := hk2.trans kd
  have hlr : r0.length ≤ 8 := by omega
  have hln : n.length ≤ 8 := by omega
  have HML := Lib.hid (And.intro hml (And.intro hmc (And.intro hnl hnc)))
  clear hr0 hs0 hrow hrowb hc0 hd0 kd hbox2 hrow2 hbox3 hml hmc hnl hnc
  go_upto_region 5 with fail
  obtain ⟨hbr, hbb⟩ := id hSd
  go_region
  obtain ⟨hbr, hbb⟩ := hSd
  generalize w2.drew = W0 at *
  by_cases hne : r0.length = n.length
  rotate_left
  · have hne1 : ((r0.length : Int) != (n.length : Int)) = true := by simpa using (by omega : ¬ (r0.length : Int) = (n.length : Int))
    have HE := Lib.hid (show D = ([], 3) by
      rw [HD.out]; unfold mulC
      rw [HVM.out, HVN.out, HP.out, if_neg (by decide), if_neg (by decide), if_pos (by have := HC0.out; omega)])
    clear hne
    go_wp2_with fail
    rw [HE.out]
    refine bodyPost_ret (v := .tuple #[.slice none 0 0, .int .i64 3]) (by simp [results, Tryz.results35, go_sem]) rfl ?_
    exact matE_nil rfl hk2
  have hne1 : ((r0.length : Int) != (n.length : Int)) = false := by rw [hne]; simp
  have HDm := Lib.hid (show D = (mulF m n p.toNat, 0) by
    rw [HD.out]; unfold mulC
    rw [HVM.out, HVN.out, HP.out, if_neg (by decide), if_neg (by decide), if_neg (by have := HC0.out; omega)])
  have HNE := Lib.hid hne
  clear hne
  have hmk := make_rows (m.length : Int) m.length rfl (by omega)
  go_wp2_with fail
  rw [hne1]
  have hO := OutH.made W0 m.length
  generalize hW1 : W0.alloc _ = W1 at *
  have HK2 := Lib.hid hk2
  have HB := Lib.hid (And.intro hbr hbb)
  clear hW1 hne1 hmk hbr hbb hk2
  obtain ⟨q, hq⟩ : ∃ q : Nat, q = p.toNat := ⟨_, rfl⟩
  have hpq : p = (q : Int) := by
    have := preB_iff.1 HP.out
    omega
  have hq0 : 8 ≤ q := by have := preB_iff.1 HP.out; omega
  have hq1 : q ≤ 512 := by have := preB_iff.1 HP.out; omega
  rw [hpq]
  have HQ := Lib.hid hq
  clear hq hpq
  obtain ⟨F, hF⟩ : ∃ F : Nat → Nat → PI, F = fun i j => dotF q (atP m i) (fun t => atP n t j) (colsM m - 1) := ⟨_, rfl⟩
  have HF := Lib.hid hF
  clear hF
  have HO := Lib.hid hO
  clear hO
  go_loopg [37] m.length (fun q v wr => ∃ R : List (List RI), R.length + q = m.length ∧ v = .int .i64 (R.length : Int) ∧ OutH W0 wr W0.heap.size m.length R ∧ plM R = tabM R.length (colsM n) F ∧ okM R)
  case atStart => exact ⟨[], by simp, rfl, HO.out, rfl, fun r h => by simp at h⟩
  case round =>
  obtain ⟨R, hRq, rfl, hO, hpl, hok⟩ := hrel
  clear HO
  have HH := Lib.hid (And.intro hpl hok)
  have HOH := Lib.hid hO
  have hkr := hO.2.1
  have hbbr := hkr.cell HB.out.2
  have hrbr := hkr.cell ((HK2.out).cell hrowb2.out.1)
  clear hpl hok hO
  by_cases hlt : R.length < m.length
  rotate_left
  · have hRe : R.length = m.length := by omega
    have HRe := Lib.hid hRe
    clear hbbr hrbr hRe hRq
    go_wp2_with fail
    rw [HDm.out]
    refine bodyPost_ret (v := .tuple #[.slice (some ⟨W0.heap.size, 0, none⟩) m.length m.length, .int .i64 0]) (by simp [results, Tryz.results35, go_sem]) rfl ?_
    refine ⟨_, R, m.length, by rw [HRe.out], HOH.out.rowM, ?_, HH.out.2, by have := HML.out; have := HRe.out; omega, HK2.out.trans hkr⟩
    rw [HH.out.1, HRe.out, HF.out, HQ.out]; rfl
  obtain ⟨r, hr⟩ : ∃ r, m[R.length]? = some r := ⟨_, List.getElem?_eq_getElem hlt⟩
  obtain ⟨b2, o2, ra2, rc2, e2, hrc, hrow, hrl⟩ := HM.out R.length r hr
  cases e2
  have HRW := Lib.hid (And.intro hrc (And.intro hrow (vlM_row HVM.out hr)))
  have HG := Lib.hid (show rowG r = atP m R.length by rw [← rowG_at, List.getD_eq_getElem?_getD, hr]; rfl)
  have HMO := Lib.hid (HOH.out.open hlt)
  have Hlt := Lib.hid (And.intro hlt hRq)
  clear hr hrc hrow hrl hRq
  have hk1 : (0 : Int) ≤ (R.length : Int) := by omega
  have hk2 : (R.length : Int) < (m.length : Int) := by omega
  have hk3 : m.length ≤ 8 := HML.out.1.2
  go_wp2_with fail
  clear hbbr hrbr HOH
  obtain ⟨gk1, hgk1⟩ : ∃ x : Nat, x = gk := ⟨_, rfl⟩
  subst hgk1
  obtain ⟨wr1, hwr1⟩ : ∃ x : World, x = wr := ⟨_, rfl⟩
  subst hwr1
  go_loopg [44] s0.length (fun q v wr => ∃ (u : Value) (cur : List RI), cur.length + q = s0.length ∧ v = .int .i64 (cur.length : Int) ∧ OutM W0 wr W0.heap.size m.length R u cur ∧ plR cur = rowF cur.length (F R.length) ∧ ∀ x ∈ cur, x.vl = true)
  case atStart => exact ⟨_, [], by simp, rfl, HMO.out, rfl, fun x h => by simp at h⟩
  case round =>
  obtain ⟨u, cur, hcq, rfl, hM, hpc, hvc⟩ := hrel
  clear HMO
  by_cases hlt2 : cur.length < s0.length
  rotate_left
  · have hce : cur.length = s0.length := by omega
    have hcl : cur.length ≤ 1100000 := by have := HC0.out; have := HML.out; omega
    have hcc := Lib.hid (hM.close hcl)
    have HPC := Lib.hid (And.intro hpc (And.intro hvc hce))
    clear hpc hvc hcq hM hce hcl
    go_wp2_with fail
    go_roundg (gk1 - 1)
    case measure => have := Hlt.out; omega
    case rel =>
    refine ⟨R ++ [cur], by have := Hlt.out; rw [List.length_append, List.length_singleton]; omega, by rw [List.length_append, List.length_singleton]; go_num, hcc.out, ?_, okM_snoc HH.out.2 HPC.out.2.1⟩
    rw [plM_snoc, HH.out.1, List.length_append, List.length_singleton, tabM_snoc, HPC.out.1, HPC.out.2.2, HC0.out.2]
  have HPC := Lib.hid (And.intro hpc (And.intro hvc (And.intro hcq hlt2)))
  have hs8 : s0.length ≤ 8 := by have := HC0.out; have := HML.out; omega
  clear hpc hvc hcq
  go_upto_region 14 with fail
  have kA := (Kp.refl wr).alloc (.cells #[.int .i64 (cur.length : Int)] 3)
  have hM3 := hM.kp kA
  generalize hW3 : wr.alloc _ = W3 at *
  have hjb : W3.cell? ⟨wr.heap.size, 0, none⟩ = some (.int .i64 (cur.length : Int)) := by rw [← hW3]; simp
  clear hW3 hM kA
  have kd := (Kp.refl W3).drew
  have hk3' := hM3.2.1.1
  have hcell := hM3.cellF
  obtain ⟨hc1, hf1⟩ := id hcell
  have hrowc := (HK2.out.trans hk3').cell HRW.out.1
  have HM3 := Lib.hid hM3
  have HAT := Lib.hid (show AtI Tryz.prog 82 #[.pointer (some ⟨w.heap.size, 0, none⟩), .pointer (some ⟨wr.heap.size, 0, none⟩)] W3.drew r.length (fun t => atP n t cur.length) from
    ⟨fun _ _ => by kernel_rfl, fun k hk w1 k' => mulat_any n (some ⟨bb, ob, none⟩) d k cur.length _ _ w1 (HN.out.kp (((HK2.out.trans hk3').trans kd).trans k')) HVN.out ((hk3'.trans (kd.trans k')).cell HB.out.2) ((kd.trans k').cell hjb) (by have := HRW.out.2.2.1; have := HNE.out; have := HC0.out; omega) (by have := HC0.out; omega)⟩)
  have HRI := Lib.hid (HRW.out.2.1.kp ((HK2.out.trans hk3').trans kd))
  have HRN := Lib.hid (show 0 < r.length ∧ r.length ≤ 8 by have := HRW.out.2.2.1; have := HML.out; omega)
  have HT3 := Lib.hid (HT.out.kp ((HK2.out.trans hk3').trans kd))
  have HD3 := Lib.hid kd
  have HZ := Lib.hid (show dotF q (rowG r) (fun t => atP n t cur.length) (r.length - 1) = F R.length cur.length by rw [HF.out, HG.out, HRW.out.2.2.1])
  have hcl : cur.length + 1 ≤ 9000000 := by omega
  clear hM3 hk3' hjb kd hcell
  go_region_law (first
    | (go_simp; go_at_call 81; (with_reducible refine (dot_any _ r rc2 _ _ q _ _ HRI.out HRW.out.2.2.2 HRN.out.1 HRN.out.2 HAT.out hq0 hq1 HT3.out).mono ?_); rintro e v1 ⟨z, rfl, hz, hzp, hzv, j1⟩
       have kZ := (HD3.out.trans j1).alloc (.cells #[.bool z.lo.neg, .slice z.lo.a z.lo.xs.length z.lo.c, .int .i64 z.lo.e, .bool z.hi.neg, .slice z.hi.a z.hi.xs.length z.hi.c, .int .i64 z.hi.e, .bool z.all] 44)
       have hM4 := HM3.out.kp (HD3.out.trans j1)
       obtain ⟨hc1, hf1⟩ := hM4.cellF
       have hM5 := HM3.out.kp kZ
       obtain ⟨hc1, hf1⟩ := hM5.cellF
       have hown := hM5.2.1
       have hzA := hz.kp ((Kp.refl v1).alloc (.cells #[.bool z.lo.neg, .slice z.lo.a z.lo.xs.length z.lo.c, .int .i64 z.lo.e, .bool z.hi.neg, .slice z.hi.a z.hi.xs.length z.hi.c, .int .i64 z.hi.e, .bool z.all] 44))
       have ZP := Lib.hid (And.intro (hzp.trans HZ.out) hzv)
       have HM5 := Lib.hid hM5
       clear hz hzp hzv kZ hM5 hM4)
    | (refine step_append_ivg (by rfl) _ _ (by rfl) W0 u cur (by rfl) hown _ _ (by rfl) z hzA (by simp) hcl ?_; intro a' c' w9 hown9 hgrow hblk
       obtain ⟨hc1, hf1⟩ := HM5.out.cellG hgrow)
    | fail)
  all_goals
    have hst := OutM.step HM5.out hown9 hgrow hblk HM5.out.2.1.noU
    go_wp2_with fail
    go_roundg (gk - 1)
    case measure => have := HPC.out.2.2; omega
    case rel =>
      refine ⟨_, cur ++ [z], by have := HPC.out.2.2; rw [List.length_append, List.length_singleton]; omega, by rw [List.length_append, List.length_singleton]; go_num, hst, ?_, ok_snoc HPC.out.2.1 ZP.out.2⟩
      rw [plR_snoc, HPC.out.1, List.length_append, List.length_singleton, rowF_snoc, ZP.out.1]
def MatV (w : World) (X : List (List PI)) (e : Ending) (w' : World) : Prop :=
  ∃ (a : Option Addr) (Z : List (List RI)) (c : Nat), e = .returned (.slice a Z.length c) ∧ RowM w' a Z ∧ plM Z = X ∧ okM Z ∧ Z.length ≤ 1100000 ∧ Kp w w'
def FunE (P : Program) (g : FuncId) (cap : Array Value) (w : World) (m : List (List RI)) (F : Nat → Nat → PI) : Prop :=
  Enters P g ∧ ∀ (i j : Nat) (r : List RI) (x : RI), m[i]? = some r → r[j]? = some x → ∀ w1, Kp w w1 → x.rd w1 → Calls P g (#[.int .i64 (i : Int), .int .i64 (j : Int), .agg #[.bool x.lo.neg, .slice x.lo.a x.lo.xs.length x.lo.c, .int .i64 x.lo.e, .bool x.hi.neg, .slice x.hi.a x.hi.xs.length x.hi.c, .int .i64 x.hi.e, .bool x.all]] ++ cap) w1 (IvOut w1 (F i j))
set_option maxRecDepth 100000 in
set_option maxHeartbeats 8000000 in
theorem each_any (a : Option Addr) (m : List (List RI)) (c : Nat) (g : FuncId) (cap : Array Value) (F : Nat → Nat → PI) (w : World) (hm : RowM w a m) (hvm : vlM m = true) (hF : FunE Tryz.prog g cap w m F) :
    Calls Tryz.prog 120 #[.slice a m.length c, .func (.func g) #[] cap] w (MatV w (tabM m.length (colsM m) F)) := by
  have hgo : ∀ args w, (callFunc g args).run Tryz.prog w = .ok (.enter g args) w := hF.1
  have HFN := Lib.hid hF.2
  have HM := Lib.hid hm
  have HVM := Lib.hid hvm
  have hml := (vlM_iff.1 hvm).1
  have hmc := (vlM_iff.1 hvm).2.1
  have hm8 : m.length ≤ 8 := hml.2
  have hmk := make_rows (m.length : Int) m.length rfl (by omega)
  obtain ⟨r0, hr0, hc0⟩ := vlM_row0 hvm
  obtain ⟨ba, oa, _, _, rfl, _⟩ := hm 0 r0 hr0
  have HML := Lib.hid (And.intro hml hmc)
  clear hF hm hvm hml hmc hr0 hc0
  go_enter Tryz.func120, Tryz.ntmps120
  go_wp2_with fail
  have hO := OutH.made w m.length
  generalize hW1 : w.alloc _ = W1 at *
  have HO := Lib.hid hO
  clear hW1 hmk hO
  go_loopg [15] m.length (fun q v wr => ∃ R : List (List RI), R.length + q = m.length ∧ v = .int .i64 (R.length : Int) ∧ OutH w wr w.heap.size m.length R ∧ plM R = tabM R.length (colsM m) F ∧ okM R)
  case atStart => exact ⟨[], by simp, rfl, HO.out, rfl, fun r h => by simp at h⟩
  case round =>
  obtain ⟨R, hRq, rfl, hO, hpl, hok⟩ := hrel
  clear HO
  have HH := Lib.hid (And.intro hpl hok)
  have HOH := Lib.hid hO
  have hkr := hO.2.1
  clear hpl hok hO
  by_cases hlt : R.length < m.length
  rotate_left
  · have hRe : R.length = m.length := by omega
    have HRe := Lib.hid hRe
    clear hRe hRq
    go_wp2_with fail
    go_ret
    refine ⟨some ⟨w.heap.size, 0, none⟩, R, m.length, by rw [HRe.out]; rfl, HOH.out.rowM, ?_, HH.out.2, by have := HML.out; have := HRe.out; omega, hkr⟩
    rw [HH.out.1, HRe.out]
  obtain ⟨r, hr⟩ : ∃ r, m[R.length]? = some r := ⟨_, List.getElem?_eq_getElem hlt⟩
  obtain ⟨b2, o2, ra2, rc2, e2, hrc, hrow, hrl⟩ := HM.out R.length r hr
  cases e2
  have hrc1 := hkr.cell hrc
  have HRW := Lib.hid (And.intro hr (And.intro hrow (vlM_row HVM.out hr)))
  have HMO := Lib.hid (HOH.out.open hlt)
  have Hlt := Lib.hid (And.intro hlt hRq)
  have hr8 : r.length ≤ 8 := by have := (vlM_row HVM.out hr).1; have := HML.out.2; omega
  clear hr hrc hrow hrl hRq
  have hk1 : (0 : Int) ≤ (R.length : Int) := by omega
  have hk2 : (R.length : Int) < (m.length : Int) := by omega
  go_wp2_with fail
  clear HOH hrc1
  obtain ⟨gk1, hgk1⟩ : ∃ x : Nat, x = gk := ⟨_, rfl⟩
  subst hgk1
  obtain ⟨wr1, hwr1⟩ : ∃ x : World, x = wr := ⟨_, rfl⟩
  subst hwr1
  go_loopg [22] r.length (fun q v wr => ∃ (u : Value) (cur : List RI), cur.length + q = r.length ∧ v = .int .i64 (cur.length : Int) ∧ OutM w wr w.heap.size m.length R u cur ∧ plR cur = rowF cur.length (F R.length) ∧ ∀ x ∈ cur, x.vl = true)
  case atStart => exact ⟨_, [], by simp, rfl, HMO.out, rfl, fun x h => by simp at h⟩
  case round =>
  obtain ⟨u, cur, hcq, rfl, hM, hpc, hvc⟩ := hrel
  clear HMO
  by_cases hlt2 : cur.length < r.length
  rotate_left
  · have hce : cur.length = r.length := by omega
    have hcl : cur.length ≤ 1100000 := by omega
    have hcc := Lib.hid (hM.close hcl)
    have HPC := Lib.hid (And.intro hpc (And.intro hvc hce))
    clear hpc hvc hcq hM hce hcl
    go_wp2_with fail
    go_roundg (gk1 - 1)
    case measure => have := Hlt.out; omega
    case rel =>
    refine ⟨R ++ [cur], by have := Hlt.out; rw [List.length_append, List.length_singleton]; omega, by rw [List.length_append, List.length_singleton]; go_num, hcc.out, ?_, okM_snoc HH.out.2 HPC.out.2.1⟩
    rw [plM_snoc, HH.out.1, List.length_append, List.length_singleton, tabM_snoc, HPC.out.1, HPC.out.2.2, HRW.out.2.2.1]
  obtain ⟨x, hx⟩ : ∃ x, r[cur.length]? = some x := ⟨_, List.getElem?_eq_getElem hlt2⟩
  obtain ⟨b3, o3, e3, hrd, s0, s1, s2, s3, s4, s5, s6⟩ := (HRW.out.2.1.kp hM.2.1.1) cur.length x hx
  subst e3
  have HPC := Lib.hid (And.intro hpc (And.intro hvc (And.intro hcq hlt2)))
  have hj1 : (0 : Int) ≤ (cur.length : Int) := by omega
  have hj2 : (cur.length : Int) < (r.length : Int) := by omega
  have kA := (Kp.refl wr).alloc (.cells #[.bool x.lo.neg, .slice x.lo.a x.lo.xs.length x.lo.c, .int .i64 x.lo.e, .bool x.hi.neg, .slice x.hi.a x.hi.xs.length x.hi.c, .int .i64 x.hi.e, .bool x.all] 44)
  have HX := Lib.hid (And.intro hx (hrd.kp kA))
  have hM3 := hM.kp kA
  clear hpc hvc hcq hx hrd hM
  go_upto_region 8 with fail
  clear s0 s1 s2 s3 s4 s5 s6
  generalize hW3 : wr.alloc _ = W3 at *
  have hxb : W3.cell? ⟨wr.heap.size, 0, none⟩ = some (.bool x.lo.neg) ∧ W3.cell? ⟨wr.heap.size, 1, none⟩ = some (.slice x.lo.a x.lo.xs.length x.lo.c) ∧ W3.cell? ⟨wr.heap.size, 2, none⟩ = some (.int .i64 x.lo.e) ∧ W3.cell? ⟨wr.heap.size, 3, none⟩ = some (.bool x.hi.neg) ∧ W3.cell? ⟨wr.heap.size, 4, none⟩ = some (.slice x.hi.a x.hi.xs.length x.hi.c) ∧ W3.cell? ⟨wr.heap.size, 5, none⟩ = some (.int .i64 x.hi.e) ∧ W3.cell? ⟨wr.heap.size, 6, none⟩ = some (.bool x.all) := by rw [← hW3]; simp
  clear hW3 kA
  have kd := (Kp.refl W3).drew
  have hk3' := hM3.2.1.1
  obtain ⟨hc1, hf1⟩ := hM3.cellF
  have HM3 := Lib.hid hM3
  have HCF := Lib.hid (HFN.out R.length cur.length r x HRW.out.1 HX.out.1 W3.drew (hk3'.trans kd) (HX.out.2.kp kd))
  have HD3 := Lib.hid kd
  have hcl : cur.length + 1 ≤ 9000000 := by omega
  obtain ⟨s0, s1, s2, s3, s4, s5, s6⟩ := id hxb
  clear hM3 hk3' kd
  go_region_law (first
    | (go_simp; (with_reducible refine HCF.out.mono ?_); rintro e v1 ⟨z, rfl, hz, hzp, hzv, j1⟩
       have kZ := (HD3.out.trans j1).alloc (.cells #[.bool z.lo.neg, .slice z.lo.a z.lo.xs.length z.lo.c, .int .i64 z.lo.e, .bool z.hi.neg, .slice z.hi.a z.hi.xs.length z.hi.c, .int .i64 z.hi.e, .bool z.all] 44)
       have hM4 := HM3.out.kp (HD3.out.trans j1)
       obtain ⟨hc1, hf1⟩ := hM4.cellF
       have hM5 := HM3.out.kp kZ
       obtain ⟨hc1, hf1⟩ := hM5.cellF
       have hown := hM5.2.1
       have hzA := hz.kp ((Kp.refl v1).alloc (.cells #[.bool z.lo.neg, .slice z.lo.a z.lo.xs.length z.lo.c, .int .i64 z.lo.e, .bool z.hi.neg, .slice z.hi.a z.hi.xs.length z.hi.c, .int .i64 z.hi.e, .bool z.all] 44))
       have ZP := Lib.hid (And.intro hzp hzv)
       have HM5 := Lib.hid hM5
       clear hz hzp hzv kZ hM5 hM4)
    | (refine step_append_ivg (by rfl) _ _ (by rfl) w u cur (by rfl) hown _ _ (by rfl) z hzA (by simp) hcl ?_; intro a' c' w9 hown9 hgrow hblk
       obtain ⟨hc1, hf1⟩ := HM5.out.cellG hgrow)
    | fail)
  all_goals
    have hst := OutM.step HM5.out hown9 hgrow hblk HM5.out.2.1.noU
    go_wp2_with fail
    go_roundg (gk - 1)
    case measure => have := HPC.out.2.2; omega
    case rel =>
      refine ⟨_, cur ++ [z], by have := HPC.out.2.2; rw [List.length_append, List.length_singleton]; omega, by rw [List.length_append, List.length_singleton]; go_num, hst, ?_, ok_snoc HPC.out.2.1 ZP.out.2⟩
      rw [plR_snoc, HPC.out.1, List.length_append, List.length_singleton, rowF_snoc, ZP.out.1]
def colsN (m : List (List RD)) : Nat := (m.headD []).length
def vlN (m : List (List RD)) : Bool := decide (1 ≤ m.length ∧ m.length ≤ 8) && (decide (1 ≤ colsN m ∧ colsN m ≤ 8) && m.all fun r => decide (r.length = colsN m) && r.all RD.vl)
theorem vlN_iff {m : List (List RD)} : vlN m = true ↔ (1 ≤ m.length ∧ m.length ≤ 8) ∧ (1 ≤ colsN m ∧ colsN m ≤ 8) ∧ ∀ r ∈ m, r.length = colsN m ∧ ∀ x ∈ r, x.vl = true := by
  unfold vlN
  simp only [Bool.and_eq_true, decide_eq_true_eq, List.all_eq_true]
theorem enters_DValid : Enters Tryz.prog 59 := fun _ _ => by kernel_rfl
theorem storeFN (a : Addr) (f : Fn) (ts cap : Array Value) (m : Mode) (w : World) : (store a (.func f ts cap) m).run Tryz.prog w = Go.stored Tryz.prog w a (.func f ts cap) m := run_store _ w a _ m rfl
set_option maxHeartbeats 2000000 in
theorem recn11_any (x : RD) (b : Nat) (w : World) (hx : x.rd w) (hf : w.cell? ⟨b, 0, none⟩ = some (.func (.func 59) #[] #[])) :
    Calls Tryz.prog 118 #[.agg #[.bool x.neg, .slice x.a x.xs.length x.c, .int .i64 x.e], .pointer (some ⟨b, 0, none⟩)] w fun e w' => e = .returned (.bool (!x.vl)) ∧ Kp w w' := by
  have hgo : ∀ args w, (callFunc 59 args).run Tryz.prog w = .ok (.enter 59 args) w := enters_DValid
  have k1 := (Kp.refl w).alloc (.cells #[.bool x.neg, .slice x.a x.xs.length x.c, .int .i64 x.e] 42)
  have hf1 := k1.cell hf
  have hlt := World.block_lt_of_cell? w _ hf
  clear hf
  go_enter Tryz.func118, Tryz.ntmps118
  go_wp2_with fail
  go_fit (Valid_raw x _ (hx.kp k1))
  rintro e w1 ⟨rfl, k2⟩
  cases hv : x.vl with
  | false =>
    go_wp2_with fail
    go_ret
    exact ⟨ret_bool (by rw [hv]; rfl), k1.trans k2⟩
  | true =>
  go_wp2_with fail
  go_ret
  exact ⟨ret_bool (by rw [hv]; rfl), k1.trans k2⟩
def badN (m : List (List RD)) (r : List RD) : Bool := decide (r.length ≠ colsN m) || r.any fun x => !x.vl
theorem vlN_any (m : List (List RD)) : vlN m = (decide (1 ≤ m.length ∧ m.length ≤ 8) && (decide (1 ≤ colsN m ∧ colsN m ≤ 8) && !m.any (badN m))) := by
  unfold vlN
  congr 2
  rw [List.not_any_eq_all_not]
  congr 1
  funext r
  unfold badN
  rw [Bool.not_or, List.not_any_eq_all_not]
  simp
set_option maxHeartbeats 4000000 in
theorem recn1_any (m : List (List RD)) (r : List RD) (a ra : Option Addr) (c rc bm bo : Nat) (w : World) (hm : RowN w a m) (hm0 : 0 < m.length) (hl : m.length ≤ 1100000) (hr : RowD w ra r) (hrl : r.length ≤ 1100000)
    (h1 : w.cell? ⟨bm, 0, none⟩ = some (.slice a m.length c)) (h2 : w.cell? ⟨bo, 0, none⟩ = some (.func (.func 59) #[] #[])) :
    Calls Tryz.prog 117 #[.slice ra r.length rc, .pointer (some ⟨bm, 0, none⟩), .pointer (some ⟨bo, 0, none⟩)] w fun e w' => e = .returned (.bool (badN m r)) ∧ Kp w w' := by
  obtain ⟨r0, h0⟩ : ∃ r0, m[0]? = some r0 := ⟨_, List.getElem?_eq_getElem hm0⟩
  have hc0 : colsN m = r0.length := by
    unfold colsN
    cases m with
    | nil => simp at hm0
    | cons x t => simp at h0; subst h0; rfl
  obtain ⟨b, o, ra0, rc0, rfl, hcell, _, hl0⟩ := hm 0 r0 h0
  rw [Nat.add_zero] at hcell
  have HB := Lib.hid (show badN m r = (decide (r.length ≠ r0.length) || r.any fun x => !x.vl) by unfold badN; rw [hc0])
  have hp : AnsD Tryz.prog 118 #[.pointer (some ⟨bo, 0, none⟩)] w r (fun x => !x.vl) := ⟨fun _ _ => by kernel_rfl, fun x hx w1 k => recn11_any x bo w1 ((hr.rd hx).kp k) (k.cell h2)⟩
  have hcn := containsD ra r rc _ _ w _ hrl hr hp
  have HC := Lib.hid hcn
  have hi0 : (0 : Int) < (m.length : Int) := by omega
  clear hm hm0 hc0 h0 hp hcn hr
  by_cases hlen : r.length = r0.length
  rotate_left
  · have hne : ((r.length : Int) != (r0.length : Int)) = true := by simpa using (by omega : ¬ (r.length : Int) = (r0.length : Int))
    have HB2 := Lib.hid (show badN m r = true by rw [HB.out, decide_eq_true (by simpa using hlen)]; rfl)
    clear hlen HB
    go_enter Tryz.func117, Tryz.ntmps117
    go_wp2_with fail
    go_ret
    exact ⟨ret_bool HB2.out.symm, .refl _⟩
  have hne : ((r.length : Int) != (r0.length : Int)) = false := by rw [hlen]; simp
  have HB2 := Lib.hid (show badN m r = r.any (fun x => !x.vl) by rw [HB.out, decide_eq_false (by simpa using hlen)]; rfl)
  clear hlen HB
  go_enter Tryz.func117, Tryz.ntmps117
  go_wp2_with fail
  go_fit HC.out
  rintro e w1 ⟨rfl, k1⟩
  go_wp2_with fail
  go_ret
  exact ⟨ret_bool HB2.out.symm, k1⟩
set_option maxHeartbeats 4000000 in
theorem recn_any (a : Option Addr) (m : List (List RD)) (c : Nat) (w : World) (hm : RowN w a m) (hl : m.length ≤ 1100000) :
    Calls Tryz.prog 72 #[.slice a m.length c, .func (.func 59) #[] #[]] w fun e w' => e = .returned (.bool (vlN m)) ∧ Kp w w' := by
  have HV := Lib.hid (vlN_any m)
  have hsf := storeFN
  rcases Nat.eq_zero_or_pos m.length with hz | hpos
  · have H := Lib.hid (show vlN m = false by rw [HV.out, hz]; rfl)
    rw [hz]
    clear hz HV
    go_enter Tryz.func72, Tryz.ntmps72
    go_wp2_with fail
    go_ret
    exact ⟨ret_bool H.out.symm, ((Kp.refl w).alloc _).alloc _⟩
  have hn1 : ¬ (m.length : Int) < 1 := by omega
  by_cases h8 : 8 < m.length
  · have H := Lib.hid (show vlN m = false by rw [HV.out, decide_eq_false (by omega)]; rfl)
    have hn2 : (8 : Int) < (m.length : Int) := by omega
    clear h8 HV hpos
    go_enter Tryz.func72, Tryz.ntmps72
    go_wp2_with fail
    go_ret
    exact ⟨ret_bool H.out.symm, ((Kp.refl w).alloc _).alloc _⟩
  have hn2 : ¬ (8 : Int) < (m.length : Int) := by omega
  have hn3 : (0 : Int) < (m.length : Int) := by omega
  obtain ⟨r0, h0⟩ : ∃ r0, m[0]? = some r0 := ⟨_, List.getElem?_eq_getElem hpos⟩
  have hc0 : colsN m = r0.length := by
    unfold colsN
    cases m with
    | nil => simp at hpos
    | cons x t => simp at h0; subst h0; rfl
  obtain ⟨b, o, ra0, rc0, rfl, hcell, _, hl0⟩ := hm 0 r0 h0
  rw [Nat.add_zero] at hcell
  have HV1 := Lib.hid (show vlN m = (decide (1 ≤ r0.length ∧ r0.length ≤ 8) && !m.any (badN m)) by rw [HV.out, hc0, decide_eq_true (by omega)]; rfl)
  have hk2 := ((Kp.refl w).alloc (.cells #[.slice (some ⟨b, o, none⟩) m.length c] 22)).alloc (.cells #[.func (.func 59) #[] #[]] 63)
  have hcl := hk2.cell hcell
  have hlt := World.block_lt_of_cell? w _ hcell
  by_cases hz : r0.length = 0
  · have H := Lib.hid (show vlN m = false by rw [HV1.out, decide_eq_false (by omega)]; rfl)
    have g1 : (r0.length : Int) < 1 := by omega
    clear HV HV1 h0 hc0 hm hpos h8 hz
    go_enter Tryz.func72, Tryz.ntmps72
    go_wp2_with fail
    go_ret
    exact ⟨ret_bool H.out.symm, ((Kp.refl w).alloc _).alloc _⟩
  have g1 : ¬ (r0.length : Int) < 1 := by omega
  by_cases h9 : 8 < r0.length
  · have H := Lib.hid (show vlN m = false by rw [HV1.out, decide_eq_false (by omega)]; rfl)
    have g2 : (8 : Int) < (r0.length : Int) := by omega
    clear HV HV1 h0 hc0 hm hpos h8 hz h9
    go_enter Tryz.func72, Tryz.ntmps72
    go_wp2_with fail
    go_ret
    exact ⟨ret_bool H.out.symm, ((Kp.refl w).alloc _).alloc _⟩
  have g2 : ¬ (8 : Int) < (r0.length : Int) := by omega
  have H := Lib.hid (show vlN m = !m.any (badN m) by rw [HV1.out, decide_eq_true (by omega)]; rfl)
  have HM := Lib.hid hm
  have Hpos := Lib.hid hpos
  clear HV HV1 h0 hc0 hpos h8 hz h9 hm
  go_enter Tryz.func72, Tryz.ntmps72
  go_wp2_with fail
  have hA : AnsN Tryz.prog 117 #[.pointer (some ⟨w.heap.size, 0, none⟩), .pointer (some ⟨w.heap.size + 1, 0, none⟩)] ((w.alloc (.cells #[.slice (some ⟨b, o, none⟩) m.length c] 22)).alloc (.cells #[.func (.func 59) #[] #[]] 63)) m (badN m) := ⟨fun _ _ => by kernel_rfl, fun r hr ra rc w1 k hrow => recn1_any m r _ ra c rc _ _ w1 ((HM.out.kp hk2).kp k) Hpos.out hl hrow.1 hrow.2 (k.cell (by simp)) (k.cell (by simp))⟩
  go_fit (containsN _ m c _ _ _ (badN m) hl (HM.out.kp hk2) hA)
  rintro e w1 ⟨rfl, k1⟩
  go_wp2_with fail
  go_ret
  exact ⟨ret_bool H.out.symm, hk2.trans k1⟩
theorem vlN_row {m : List (List RD)} (h : vlN m = true) {i : Nat} {r : List RD} (hi : m[i]? = some r) : r.length = colsN m ∧ ∀ x ∈ r, x.vl = true :=
  (vlN_iff.1 h).2.2 r (List.mem_of_getElem? hi)
theorem vlN_row0 {m : List (List RD)} (h : vlN m = true) : ∃ r, m[0]? = some r ∧ r.length = colsN m := by
  have h0 : 0 < m.length := (vlN_iff.1 h).1.1
  exact ⟨_, List.getElem?_eq_getElem h0, (vlN_row h (List.getElem?_eq_getElem h0)).1⟩
def FunN (P : Program) (g : FuncId) (cap : Array Value) (w : World) (m : List (List RD)) (F : Nat → Nat → PI) : Prop :=
  Enters P g ∧ ∀ (i j : Nat) (r : List RD) (x : RD), m[i]? = some r → r[j]? = some x → ∀ w1, Kp w w1 → x.rd w1 → Calls P g (#[.int .i64 (i : Int), .int .i64 (j : Int), .agg #[.bool x.neg, .slice x.a x.xs.length x.c, .int .i64 x.e]] ++ cap) w1 (IvOut w1 (F i j))
set_option maxRecDepth 100000 in
set_option maxHeartbeats 8000000 in
theorem eachN_any (a : Option Addr) (m : List (List RD)) (c : Nat) (g : FuncId) (cap : Array Value) (F : Nat → Nat → PI) (w : World) (hm : RowN w a m) (hvm : vlN m = true) (hF : FunN Tryz.prog g cap w m F) :
    Calls Tryz.prog 73 #[.slice a m.length c, .func (.func g) #[] cap] w (MatV w (tabM m.length (colsN m) F)) := by
  have hgo : ∀ args w, (callFunc g args).run Tryz.prog w = .ok (.enter g args) w := hF.1
  have HFN := Lib.hid hF.2
  have HM := Lib.hid hm
  have HVM := Lib.hid hvm
  have hml := (vlN_iff.1 hvm).1
  have hmc := (vlN_iff.1 hvm).2.1
  have hm8 : m.length ≤ 8 := hml.2
  have hmk := make_rows (m.length : Int) m.length rfl (by omega)
  obtain ⟨r0, hr0, hc0⟩ := vlN_row0 hvm
  obtain ⟨ba, oa, _, _, rfl, _⟩ := hm 0 r0 hr0
  have HML := Lib.hid (And.intro hml hmc)
  clear hF hm hvm hml hmc hr0 hc0
  go_enter Tryz.func73, Tryz.ntmps73
  go_wp2_with fail
  have hO := OutH.made w m.length
  generalize hW1 : w.alloc _ = W1 at *
  have HO := Lib.hid hO
  clear hW1 hmk hO
  go_loopg [15] m.length (fun q v wr => ∃ R : List (List RI), R.length + q = m.length ∧ v = .int .i64 (R.length : Int) ∧ OutH w wr w.heap.size m.length R ∧ plM R = tabM R.length (colsN m) F ∧ okM R)
  case atStart => exact ⟨[], by simp, rfl, HO.out, rfl, fun r h => by simp at h⟩
  case round =>
  obtain ⟨R, hRq, rfl, hO, hpl, hok⟩ := hrel
  clear HO
  have HH := Lib.hid (And.intro hpl hok)
  have HOH := Lib.hid hO
  have hkr := hO.2.1
  clear hpl hok hO
  by_cases hlt : R.length < m.length
  rotate_left
  · have hRe : R.length = m.length := by omega
    have HRe := Lib.hid hRe
    clear hRe hRq
    go_wp2_with fail
    go_ret
    refine ⟨some ⟨w.heap.size, 0, none⟩, R, m.length, by rw [HRe.out]; rfl, HOH.out.rowM, ?_, HH.out.2, by have := HML.out; have := HRe.out; omega, hkr⟩
    rw [HH.out.1, HRe.out]
  obtain ⟨r, hr⟩ : ∃ r, m[R.length]? = some r := ⟨_, List.getElem?_eq_getElem hlt⟩
  obtain ⟨b2, o2, ra2, rc2, e2, hrc, hrow, hrl⟩ := HM.out R.length r hr
  cases e2
  have hrc1 := hkr.cell hrc
  have HRW := Lib.hid (And.intro hr (And.intro hrow (vlN_row HVM.out hr)))
  have HMO := Lib.hid (HOH.out.open hlt)
  have Hlt := Lib.hid (And.intro hlt hRq)
  have hr8 : r.length ≤ 8 := by have := (vlN_row HVM.out hr).1; have := HML.out.2; omega
  clear hr hrc hrow hrl hRq
  have hk1 : (0 : Int) ≤ (R.length : Int) := by omega
  have hk2 : (R.length : Int) < (m.length : Int) := by omega
  go_wp2_with fail
  clear HOH hrc1
  obtain ⟨gk1, hgk1⟩ : ∃ x : Nat, x = gk := ⟨_, rfl⟩
  subst hgk1
  obtain ⟨wr1, hwr1⟩ : ∃ x : World, x = wr := ⟨_, rfl⟩
  subst hwr1
  go_loopg [22] r.length (fun q v wr => ∃ (u : Value) (cur : List RI), cur.length + q = r.length ∧ v = .int .i64 (cur.length : Int) ∧ OutM w wr w.heap.size m.length R u cur ∧ plR cur = rowF cur.length (F R.length) ∧ ∀ x ∈ cur, x.vl = true)
  case atStart => exact ⟨_, [], by simp, rfl, HMO.out, rfl, fun x h => by simp at h⟩
  case round =>
  obtain ⟨u, cur, hcq, rfl, hM, hpc, hvc⟩ := hrel
  clear HMO
  by_cases hlt2 : cur.length < r.length
  rotate_left
  · have hce : cur.length = r.length := by omega
    have hcl : cur.length ≤ 1100000 := by omega
    have hcc := Lib.hid (hM.close hcl)
    have HPC := Lib.hid (And.intro hpc (And.intro hvc hce))
    clear hpc hvc hcq hM hce hcl
    go_wp2_with fail
    go_roundg (gk1 - 1)
    case measure => have := Hlt.out; omega
    case rel =>
    refine ⟨R ++ [cur], by have := Hlt.out; rw [List.length_append, List.length_singleton]; omega, by rw [List.length_append, List.length_singleton]; go_num, hcc.out, ?_, okM_snoc HH.out.2 HPC.out.2.1⟩
    rw [plM_snoc, HH.out.1, List.length_append, List.length_singleton, tabM_snoc, HPC.out.1, HPC.out.2.2, HRW.out.2.2.1]
  obtain ⟨x, hx⟩ : ∃ x, r[cur.length]? = some x := ⟨_, List.getElem?_eq_getElem hlt2⟩
  obtain ⟨b3, o3, e3, hrd, s0, s1, s2⟩ := (HRW.out.2.1.kp hM.2.1.1) cur.length x hx
  subst e3
  have HPC := Lib.hid (And.intro hpc (And.intro hvc (And.intro hcq hlt2)))
  have hj1 : (0 : Int) ≤ (cur.length : Int) := by omega
  have hj2 : (cur.length : Int) < (r.length : Int) := by omega
  have kA := (Kp.refl wr).alloc (.cells #[.bool x.neg, .slice x.a x.xs.length x.c, .int .i64 x.e] 42)
  have HX := Lib.hid (And.intro hx (hrd.kp kA))
  have hM3 := hM.kp kA
  clear hpc hvc hcq hx hrd hM
  go_upto_region 8 with fail
  clear s0 s1 s2
  generalize hW3 : wr.alloc _ = W3 at *
  have hxb : W3.cell? ⟨wr.heap.size, 0, none⟩ = some (.bool x.neg) ∧ W3.cell? ⟨wr.heap.size, 1, none⟩ = some (.slice x.a x.xs.length x.c) ∧ W3.cell? ⟨wr.heap.size, 2, none⟩ = some (.int .i64 x.e) := by rw [← hW3]; simp
  clear hW3 kA
  have kd := (Kp.refl W3).drew
  have hk3' := hM3.2.1.1
  obtain ⟨hc1, hf1⟩ := hM3.cellF
  have HM3 := Lib.hid hM3
  have HCF := Lib.hid (HFN.out R.length cur.length r x HRW.out.1 HX.out.1 W3.drew (hk3'.trans kd) (HX.out.2.kp kd))
  have HD3 := Lib.hid kd
  have hcl : cur.length + 1 ≤ 9000000 := by omega
  obtain ⟨s0, s1, s2⟩ := id hxb
  clear hM3 hk3' kd
  go_region_law (first
    | (go_simp; (with_reducible refine HCF.out.mono ?_); rintro e v1 ⟨z, rfl, hz, hzp, hzv, j1⟩
       have kZ := (HD3.out.trans j1).alloc (.cells #[.bool z.lo.neg, .slice z.lo.a z.lo.xs.length z.lo.c, .int .i64 z.lo.e, .bool z.hi.neg, .slice z.hi.a z.hi.xs.length z.hi.c, .int .i64 z.hi.e, .bool z.all] 44)
       have hM4 := HM3.out.kp (HD3.out.trans j1)
       obtain ⟨hc1, hf1⟩ := hM4.cellF
       have hM5 := HM3.out.kp kZ
       obtain ⟨hc1, hf1⟩ := hM5.cellF
       have hown := hM5.2.1
       have hzA := hz.kp ((Kp.refl v1).alloc (.cells #[.bool z.lo.neg, .slice z.lo.a z.lo.xs.length z.lo.c, .int .i64 z.lo.e, .bool z.hi.neg, .slice z.hi.a z.hi.xs.length z.hi.c, .int .i64 z.hi.e, .bool z.all] 44))
       have ZP := Lib.hid (And.intro hzp hzv)
       have HM5 := Lib.hid hM5
       clear hz hzp hzv kZ hM5 hM4)
    | (refine step_append_ivg (by rfl) _ _ (by rfl) w u cur (by rfl) hown _ _ (by rfl) z hzA (by simp) hcl ?_; intro a' c' w9 hown9 hgrow hblk
       obtain ⟨hc1, hf1⟩ := HM5.out.cellG hgrow)
    | fail)
  all_goals
    have hst := OutM.step HM5.out hown9 hgrow hblk HM5.out.2.1.noU
    go_wp2_with fail
    go_roundg (gk - 1)
    case measure => have := HPC.out.2.2; omega
    case rel =>
      refine ⟨_, cur ++ [z], by have := HPC.out.2.2; rw [List.length_append, List.length_singleton]; omega, by rw [List.length_append, List.length_singleton]; go_num, hst, ?_, ok_snoc HPC.out.2.1 ZP.out.2⟩
      rw [plR_snoc, HPC.out.1, List.length_append, List.length_singleton, rowF_snoc, ZP.out.1]
def ptP (d : RD) : PI := ⟨d.dy, d.dy, false⟩
def atN (m : List (List RD)) (i j : Nat) : RD := (m.getD i []).getD j rdZero
theorem atN_eq {m : List (List RD)} {i j : Nat} {r : List RD} {x : RD} (hr : m[i]? = some r) (hx : r[j]? = some x) : atN m i j = x := by
  unfold atN
  rw [List.getD_eq_getElem?_getD, List.getD_eq_getElem?_getD, hr]
  show (r[j]?).getD rdZero = x
  rw [hx]; rfl
def ofF (m : List (List RD)) : List (List PI) := if vlN m = true then tabM m.length (colsN m) (fun i j => ptP (atN m i j)) else []
set_option maxHeartbeats 2000000 in
theorem of1_any (i j : Int) (x : RD) (w : World) (hx : x.ok w) :
    Calls Tryz.prog 74 #[.int .i64 i, .int .i64 j, .agg #[.bool x.neg, .slice x.a x.xs.length x.c, .int .i64 x.e]] w (IvOut w (ptP x)) := by
  have k1 := ((Kp.refl w).alloc (.cells #[.bool x.neg, .slice x.a x.xs.length x.c, .int .i64 x.e] 42)).alloc (.cells #[.bool false, .slice none 0 0, .int .i64 0, .bool false, .slice none 0 0, .int .i64 0, .bool false] 44)
  have HX := Lib.hid (hx.kp k1)
  have hV := Var7.new (w.alloc (.cells #[.bool x.neg, .slice x.a x.xs.length x.c, .int .i64 x.e] 42)) 44
  rw [World.size_alloc] at hV
  have hS : ((w.alloc (.cells #[.bool x.neg, .slice x.a x.xs.length x.c, .int .i64 x.e] 42)).alloc (.cells #[.bool false, .slice none 0 0, .int .i64 0, .bool false, .slice none 0 0, .int .i64 0, .bool false] 44)).cell? ⟨w.heap.size, 0, none⟩ = some (.bool x.neg) ∧ ((w.alloc (.cells #[.bool x.neg, .slice x.a x.xs.length x.c, .int .i64 x.e] 42)).alloc (.cells #[.bool false, .slice none 0 0, .int .i64 0, .bool false, .slice none 0 0, .int .i64 0, .bool false] 44)).cell? ⟨w.heap.size, 1, none⟩ = some (.slice x.a x.xs.length x.c) ∧ ((w.alloc (.cells #[.bool x.neg, .slice x.a x.xs.length x.c, .int .i64 x.e] 42)).alloc (.cells #[.bool false, .slice none 0 0, .int .i64 0, .bool false, .slice none 0 0, .int .i64 0, .bool false] 44)).cell? ⟨w.heap.size, 2, none⟩ = some (.int .i64 x.e) := keep3 ((Kp.refl _).alloc _) (by simp)
  clear hx
  go_enter Tryz.func74, Tryz.ntmps74
  go_upto_region 1 with fail
  generalize ((w.alloc _).alloc _) = W at *
  obtain ⟨s0, s1, s2⟩ := hS
  go_wp2_with fail
  go_fit (IPoint_pt x _ HX.out)
  rintro e w1 ⟨rfl, k2⟩
  have hV1 := hV.kp k2
  have HX1 := Lib.hid (HX.out.kp k2)
  have hk1 := k1.trans k2
  clear hV s0 s1 s2 k1 k2
  obtain ⟨⟨q0, q1, q2, q3, q4, q5, q6⟩, f0, f1, f2, f3, f4, f5, f6⟩ := id hV1
  go_wp2_with fail
  generalize hW9 : ((((((w1.setCell _ _).setCell _ _).setCell _ _).setCell _ _).setCell _ _).setCell _ _).setCell _ _ = W9
  obtain ⟨⟨s0, s1, s2, s3, s4, s5, s6⟩, hU⟩ := stored7 (show Box7 w1 _ _ _ _ _ _ _ _ from ⟨q0, q1, q2, q3, q4, q5, q6⟩) (fun _ h => by cases h) (fun _ h => by cases h) (fun _ h => by cases h) (fun _ h => by cases h) (fun _ h => by cases h) (fun _ h => by cases h) (fun _ h => by cases h) _ _ _ _ _ _ _ hW9
  clear hW9 q0 q1 q2 q3 q4 q5 q6 f0 f1 f2 f3 f4 f5 f6
  refine bodyPost_ret (v := .agg #[.bool (ptI x).lo.neg, .slice (ptI x).lo.a (ptI x).lo.xs.length (ptI x).lo.c, .int .i64 (ptI x).lo.e, .bool (ptI x).hi.neg, .slice (ptI x).hi.a (ptI x).hi.xs.length (ptI x).hi.c, .int .i64 (ptI x).hi.e, .bool (ptI x).all]) (by simp [results, Tryz.results74, go_sem, s0, s1, s2, s3, s4, s5, s6]) rfl ?_
  exact ⟨ptI x, rfl, hU.rdI (ptI_rd HX1.out.1), rfl, (ptI_ok HX1.out).2.2, hU.2.2.1 _ hk1 (by omega)⟩
set_option maxHeartbeats 2000000 in
theorem mof_any (a : Option Addr) (m : List (List RD)) (c : Nat) (w : World) (hm : RowN w a m) (hl : m.length ≤ 1100000) :
    Calls Tryz.prog 31 #[.slice a m.length c] w (MatV w (ofF m)) := by
  have H := Lib.hid (recn_any a m c w hm hl)
  have HM := Lib.hid hm
  obtain ⟨D, hD⟩ : ∃ D, D = ofF m := ⟨_, rfl⟩
  have HD := Lib.hid hD
  rw [← hD]
  clear hm hD
  go_enter Tryz.func31, Tryz.ntmps31
  go_wp2_with fail
  go_fit H.out
  rintro e w1 ⟨rfl, k1⟩
  cases hv : vlN m with
  | false =>
    have HE := Lib.hid (show D = [] by rw [HD.out]; unfold ofF; rw [if_neg (by rw [hv]; decide)])
    clear hv
    go_wp2_with fail
    go_ret
    rw [HE.out]
    exact ⟨none, [], 0, rfl, fun i r h => by simp at h, rfl, fun r h => by simp at h, by simp, k1⟩
  | true =>
  have HV := Lib.hid hv
  have HE := Lib.hid (eachN_any a m c 74 #[] (fun i j => ptP (atN m i j)) w1 (HM.out.kp k1) hv ⟨fun _ _ => by kernel_rfl, fun i j r x hi hj w2 k2 hx => by
    have := of1_any (i : Int) (j : Int) x w2 ⟨hx, (vlN_row HV.out hi).2 x (List.mem_of_getElem? hj)⟩
    have e : (fun i j => ptP (atN m i j)) i j = ptP x := by show ptP (atN m i j) = _; rw [atN_eq hi hj]
    rw [e]; exact this⟩)
  have HE2 := Lib.hid (show D = tabM m.length (colsN m) (fun i j => ptP (atN m i j)) by rw [HD.out]; unfold ofF; rw [if_pos hv])
  clear hv
  go_wp2_with fail
  go_fit HE.out
  rintro e w2 ⟨a2, Z, c2, rfl, r2, p2, o2, l2, k2⟩
  go_wp2_with fail
  go_ret
  rw [HE2.out]
  exact ⟨a2, Z, c2, rfl, r2, p2, o2, l2, k1.trans k2⟩
end Go.Proofs.YtpocjagbhiahdaaGreatDoor
section
namespace Go.Proofs.YtpocjagbhiahdaaGreatDoor
open Go.RowKit

def insP (X Y : PI) : Prop := Y.all = true ∨ X.all = false ∧ Y.all = false ∧ Y.lo.iv ≤ X.lo.iv ∧ X.hi.iv ≤ Y.hi.iv
theorem insP.refl (X : PI) : insP X X := by
  cases h : X.all with
  | false => exact .inr ⟨h, h, Int.le_refl _, Int.le_refl _⟩
  | true => exact .inl h
theorem insP.whole (X : PI) : insP X .whole := .inl rfl
section
variable {K p q : Nat} {S T : Int}
end
theorem mkI_good {l h : Dy × Int} (hl : l.2 = 0) (hh : h.2 = 0) : mkI l h = ⟨l.1, h.1, false⟩ := by unfold mkI; rw [if_neg (by omega)]
theorem mkI_bad {l h : Dy × Int} (hb : l.2 ≠ 0 ∨ h.2 ≠ 0) : mkI l h = .whole := by unfold mkI; rw [if_pos hb]
end Go.Proofs.YtpocjagbhiahdaaGreatDoor
end
namespace Go.Proofs.YtpocjagbhiahdaaGreatDoor
open Go.RowKit
def hasV (X : PI) (v : Int) : Prop := X.all = true ∨ X.lo.iv ≤ v ∧ v ≤ X.hi.iv
theorem hasV.lo {X : PI} (h : X.ok) : hasV X X.lo.iv := .inr ⟨Int.le_refl _, PI.ok_le h⟩
theorem hasV.hi {X : PI} (h : X.ok) : hasV X X.hi.iv := .inr ⟨PI.ok_le h, Int.le_refl _⟩
theorem hasV.whole (v : Int) : hasV .whole v := .inl rfl
def idP (i t : Nat) : PI := if i = t then pnI 1 1 else pnI 0 0
theorem intD_zero : intD 0 = .zero := rfl
set_option maxHeartbeats 4000000 in
theorem r5point_any (d : RD) (w : World) (_hy : d.ok w) :
    Calls Tryz.prog 84 #[.agg #[.bool d.neg, .slice d.a d.xs.length d.c, .int .i64 d.e]] w fun e w' => e = .returned (.agg #[.bool (ptI d).lo.neg, .slice (ptI d).lo.a (ptI d).lo.xs.length (ptI d).lo.c, .int .i64 (ptI d).lo.e, .bool (ptI d).hi.neg, .slice (ptI d).hi.a (ptI d).hi.xs.length (ptI d).hi.c, .int .i64 (ptI d).hi.e, .bool (ptI d).all]) ∧ Kp w w' := by
  go_enter Tryz.func84, Tryz.ntmps84
  go_upto_region 1 with fail
  generalize hW : ((w.alloc _).alloc _) = W at *
  have hk : Kp w W := hW ▸ ((Kp.refl w).alloc _).alloc _
  obtain ⟨s0, s1, s2⟩ : W.cell? ⟨w.heap.size, 0, none⟩ = some (.bool d.neg) ∧ W.cell? ⟨w.heap.size, 1, none⟩ = some (.slice d.a d.xs.length d.c) ∧ W.cell? ⟨w.heap.size, 2, none⟩ = some (.int .i64 d.e) := by rw [← hW]; simp
  have hV : Var7 W (w.heap.size + 1) := by
    rw [← hW]
    have := Var7.new (w.alloc (.cells #[.bool d.neg, .slice d.a d.xs.length d.c, .int .i64 d.e] 42)) 44
    rwa [World.size_alloc] at this
  clear hW
  obtain ⟨⟨q0, q1, q2, q3, q4, q5, q6⟩, f0, f1, f2, f3, f4, f5, f6⟩ := hV
  go_wp2_with fail
  generalize hW9 : ((((((W.setCell _ _).setCell _ _).setCell _ _).setCell _ _).setCell _ _).setCell _ _).setCell _ _ = W9
  obtain ⟨⟨s0, s1, s2, s3, s4, s5, s6⟩, hU⟩ := stored7 (show Box7 W _ _ _ _ _ _ _ _ from ⟨q0, q1, q2, q3, q4, q5, q6⟩) (fun _ h => by cases h) (fun _ h => by cases h) (fun _ h => by cases h) (fun _ h => by cases h) (fun _ h => by cases h) (fun _ h => by cases h) (fun _ h => by cases h) _ _ _ _ _ _ _ hW9
  clear hW9 q0 q1 q2 q3 q4 q5 q6 f0 f1 f2 f3 f4 f5 f6
  refine bodyPost_ret (v := .agg #[.bool (ptI d).lo.neg, .slice (ptI d).lo.a (ptI d).lo.xs.length (ptI d).lo.c, .int .i64 (ptI d).lo.e, .bool (ptI d).hi.neg, .slice (ptI d).hi.a (ptI d).hi.xs.length (ptI d).hi.c, .int .i64 (ptI d).hi.e, .bool (ptI d).all]) (by simp [results, Tryz.results84, go_sem, s0, s1, s2, s3, s4, s5, s6, ptI]) rfl ?_
  exact ⟨rfl, hU.2.2.1 _ hk (by omega)⟩
def oneD (g : Nat) : RD := ⟨false, some ⟨g, 0, none⟩, [1], 1, 0⟩
theorem oneD_dy (g : Nat) : (oneD g).dy = intD 1 := by
  have hb : bits 1 ≤ 1 := bits_le.2 (by decide)
  refine intD_eqs (.inr ⟨rfl, by show bits 1 ≤ 4096; omega, by show (-16384 : Int) ≤ 0; decide, by show (0 : Int) ≤ 16384; decide, by show (bits 1 : Int) + 0 ≤ 16384; omega⟩) (by decide) ?_
  show (⟨false, 1, 0⟩ : Dy).iv = _
  rw [iv_sg]; rfl
theorem oneD_ok {w : World} {g : Nat} (h : Rd w (some ⟨g, 0, none⟩) [1]) : (oneD g).ok w :=
  ⟨⟨h, Nat.le_refl 1, by show 1 ≤ maxLen; decide, by show 1 ≤ 1100000; decide, by show I64 0; unfold I64; omega⟩, by show vld false [1] 0 = true; decide⟩
def zeroD : RD := ⟨false, none, [], 0, 0⟩
theorem zeroD_dy : zeroD.dy = intD 0 := by unfold intD; rw [show ((0 : Int).natAbs) = 0 from rfl, canon_zero]; rfl
theorem zeroD_ok (w : World) : zeroD.ok w := ⟨⟨Rd.nil _ _, by decide, by decide, by decide, by show I64 0; unfold I64; omega⟩, by show vld false [] 0 = true; decide⟩
set_option maxRecDepth 100000 in
set_option maxHeartbeats 8000000 in
theorem r7idn_any (n : Nat) (w : World) (h1 : 1 ≤ n) (h8 : n ≤ 8) :
    Calls Tryz.prog 41 #[.int .i64 n] w (MatV w (tabM n n idP)) := by
  have hn1 : ¬ ((n : Int) < 1) := by omega
  have hn8 : ¬ (8 < (n : Int)) := by omega
  obtain ⟨F, hF⟩ : ∃ F : Nat → Nat → PI, F = idP := ⟨_, rfl⟩
  have HF := Lib.hid hF
  rw [← hF]
  clear hF
  go_enter Tryz.func41, Tryz.ntmps41
  go_wp2_with fail
  clear hn1 hn8
  go_loopg [3, 4] n (fun z v x wr => ∃ (R : List (List RI)) (us : List Value), R.length + z = n ∧ x = .int .i64 (R.length : Int) ∧ OwnM w wr v us R ∧ plM R = tabM R.length n F ∧ okM R)
  case atStart => exact ⟨[], [], by simp, rfl, OwnM.nil (Kp.refl _), rfl, fun r h => by simp at h⟩
  case round =>
  obtain ⟨R, us, hRq, rfl, hO, hpl, hok⟩ := hrel
  have HH := Lib.hid (And.intro hpl hok)
  have HO := Lib.hid hO
  have hkr := hO.1
  clear hpl hok hO
  by_cases hlt : R.length < n
  rotate_left
  · have hRe : R.length = n := by omega
    obtain ⟨va, vc, rfl, hvc1, hvc2, hrm⟩ := HO.out.value
    have HRe := Lib.hid (And.intro hRe hrm)
    clear hRe hRq hrm
    go_wp2_with fail
    refine bodyPost_ret (v := .slice va R.length vc) (by simp [results, Tryz.results41, go_sem]) rfl ?_
    refine ⟨va, R, vc, rfl, HRe.out.2, ?_, HH.out.2, by have := HRe.out.1; omega, hkr⟩
    rw [HH.out.1, HRe.out.1]
  have Hlt := Lib.hid (And.intro hlt hRq)
  clear hRq
  have hk1 : (0 : Int) ≤ (R.length : Int) := by omega
  go_wp2_with fail
  obtain ⟨gk1, hgk1⟩ : ∃ x : Nat, x = gk := ⟨_, rfl⟩
  subst hgk1
  obtain ⟨wi, hwi⟩ : ∃ x : World, x = wr := ⟨_, rfl⟩
  subst hwi
  have HKI := Lib.hid hkr
  clear hkr
  go_loopg [5, 6] n (fun z u x wr => ∃ cur : List RI, cur.length + z = n ∧ x = .int .i64 (cur.length : Int) ∧ OwnN wi wr u cur ∧ plR cur = rowF cur.length (F R.length) ∧ ∀ x ∈ cur, x.vl = true)
  case atStart => exact ⟨[], by simp, rfl, OwnN.nil (Kp.refl _), rfl, fun x h => by simp at h⟩
  case round =>
  obtain ⟨cur, hcq, rfl, hown0, hpc, hvc⟩ := hrel
  by_cases hlt2 : cur.length < n
  rotate_left
  · have hce : cur.length = n := by omega
    obtain ⟨ua, uc, rfl, huc, hum, hurow⟩ := hown0.value
    have kA := (Kp.refl wr).alloc (.cells #[.slice ua cur.length uc] 34)
    have HOA := HO.out.kp (hown0.1.trans kA)
    have hoff := OwnN.off (w' := wr.alloc (.cells #[.slice ua cur.length uc] 34)) hown0 rfl HO.out.new kA.size
    have hrowA := hurow.kp kA
    have HPC := Lib.hid (And.intro hpc (And.intro hvc hce))
    have hcl2 : cur.length ≤ 1100000 := by omega
    have hRl : R.length + 1 ≤ 9000000 := by omega
    clear hpc hvc hcq hown0 huc hum hurow kA hce
    go_wp2_with (at_builtin; refine wpList_append_rowi rfl _ _ rfl w _ us R rfl HOA _ _ rfl ua uc cur hrowA hoff hcl2 (by simp) hRl ?_; intro v' us' w9 hM9)
    go_roundg (gk1 - 1)
    case measure => have := Hlt.out; omega
    case rel =>
    refine ⟨R ++ [cur], us', by have := Hlt.out; rw [List.length_append, List.length_singleton]; omega, by rw [List.length_append, List.length_singleton]; go_num, hM9, ?_, okM_snoc HH.out.2 HPC.out.2.1⟩
    rw [plM_snoc, HH.out.1, List.length_append, List.length_singleton, tabM_snoc, HPC.out.1, HPC.out.2.2]
  have HPC := Lib.hid (And.intro hpc (And.intro hvc (And.intro hcq hlt2)))
  have hcl : cur.length + 1 ≤ 9000000 := by omega
  have HOW := Lib.hid hown0
  clear hpc hvc hcq hown0
  by_cases hij : R.length = cur.length
  rotate_left
  · have heq : ((R.length : Int) == (cur.length : Int)) = false := beq_eq_false_iff_ne.2 (by omega)
    have HP := Lib.hid (show pnI 0 0 = F R.length cur.length by rw [HF.out]; show _ = idP _ _; unfold idP; rw [if_neg hij])
    clear hij
    go_upto_region 14 with fail
    have kz := (Kp.refl wr).alloc (.cells #[.bool false, .slice none 0 0, .int .i64 0] 42)
    have hB := Box3.new wr (.bool false) (.slice none 0 0) (.int .i64 0) 42
    have HY := Lib.hid (zeroD_ok (wr.alloc (.cells #[.bool false, .slice none 0 0, .int .i64 0] 42)))
    have HK := Lib.hid kz
    generalize wr.alloc _ = W9 at *
    obtain ⟨q0, q1, q2, _⟩ := id hB
    clear kz
    go_wp2_with fail
    go_fit (r5point_any zeroD _ HY.out)
    rintro e v2 ⟨rfl, j2⟩
    have kY := j2.alloc (.cells #[.bool (ptI zeroD).lo.neg, .slice (ptI zeroD).lo.a (ptI zeroD).lo.xs.length (ptI zeroD).lo.c, .int .i64 (ptI zeroD).lo.e, .bool (ptI zeroD).hi.neg, .slice (ptI zeroD).hi.a (ptI zeroD).hi.xs.length (ptI zeroD).hi.c, .int .i64 (ptI zeroD).hi.e, .bool (ptI zeroD).all] 44)
    have hown := HOW.out.kp (HK.out.trans kY)
    have hzA := ptI_rd (HY.out.kp kY).1
    have HZ := Lib.hid (And.intro (show (ptI zeroD).pl = pnI 0 0 by show PI.mk zeroD.dy zeroD.dy false = _; rw [zeroD_dy]; rfl) (ptI_ok HY.out).2.2)
    clear kY q0 q1 q2
    go_wp2_with (at_builtin; refine wpList_append_ivg rfl _ _ rfl wi _ cur rfl hown _ _ rfl (ptI zeroD) hzA (by simp [ptI, zeroD]) hcl ?_; intro a' c' w9 hown9 hgrow hblk)
    go_roundg (gk - 1)
    case measure => have := HPC.out.2.2; omega
    case rel =>
    refine ⟨cur ++ [ptI zeroD], by have := HPC.out.2.2; rw [List.length_append, List.length_singleton]; omega, by rw [List.length_append, List.length_singleton]; go_num, by simpa using hown9, ?_, ok_snoc HPC.out.2.1 HZ.out.2⟩
    rw [plR_snoc, HPC.out.1, List.length_append, List.length_singleton, rowF_snoc, HZ.out.1, HP.out]
  have heq : ((R.length : Int) == (cur.length : Int)) = true := by rw [hij]; simp
  have HP := Lib.hid (show pnI 1 1 = F R.length cur.length by rw [HF.out]; show _ = idP _ _; unfold idP; rw [if_pos hij])
  clear hij
  go_upto_region 13 with fail
  have kz := (Kp.refl wr).alloc (.cells #[.bool false, .slice none 0 0, .int .i64 0] 42)
  have hB := Box3.new wr (.bool false) (.slice none 0 0) (.int .i64 0) 42
  have hsz : (wr.alloc (.cells #[.bool false, .slice none 0 0, .int .i64 0] 42)).heap.size = wr.heap.size + 1 := by rw [World.size_alloc]
  generalize wr.alloc _ = WZ at *
  obtain ⟨hM0, hU⟩ := Box3.setM hB (fun _ h => by cases h) (.slice (some ⟨wr.heap.size + 1, 0, none⟩) 1 1)
  have hRd := rd_one (WZ.setCell ⟨wr.heap.size, 1, none⟩ (.slice (some ⟨wr.heap.size + 1, 0, none⟩) 1 1))
  rw [show (WZ.setCell ⟨wr.heap.size, 1, none⟩ (.slice (some ⟨wr.heap.size + 1, 0, none⟩) 1 1)).heap.size = wr.heap.size + 1 by simp [hsz]] at hRd
  have HY := Lib.hid (oneD_ok hRd)
  have HK := Lib.hid ((hU.2.2.1 _ kz (Nat.le_refl _)).alloc (.cells #[.int .u32 1] 103))
  have hM := hM0.kp ((Kp.refl _).alloc (.cells #[.int .u32 1] 103))
  obtain ⟨q0, q1, q2, f0, f1, f2⟩ := id hB
  clear hB hM0 hRd kz hU
  go_upto_region 14 with fail
  generalize (WZ.setCell _ _).alloc _ = W9 at *
  clear q0 q1 q2 f0 f1 f2
  obtain ⟨q0, q1, q2, _⟩ := id hM
  go_wp2_with fail
  go_fit (r5point_any (oneD (wr.heap.size + 1)) _ HY.out)
  rintro e v2 ⟨rfl, j2⟩
  have kY := j2.alloc (.cells #[.bool (ptI (oneD (wr.heap.size + 1))).lo.neg, .slice (ptI (oneD (wr.heap.size + 1))).lo.a (ptI (oneD (wr.heap.size + 1))).lo.xs.length (ptI (oneD (wr.heap.size + 1))).lo.c, .int .i64 (ptI (oneD (wr.heap.size + 1))).lo.e, .bool (ptI (oneD (wr.heap.size + 1))).hi.neg, .slice (ptI (oneD (wr.heap.size + 1))).hi.a (ptI (oneD (wr.heap.size + 1))).hi.xs.length (ptI (oneD (wr.heap.size + 1))).hi.c, .int .i64 (ptI (oneD (wr.heap.size + 1))).hi.e, .bool (ptI (oneD (wr.heap.size + 1))).all] 44)
  have hown := HOW.out.kp (HK.out.trans kY)
  have hzA := ptI_rd (HY.out.kp kY).1
  have HZ := Lib.hid (And.intro (show (ptI (oneD (wr.heap.size + 1))).pl = pnI 1 1 by show PI.mk (oneD (wr.heap.size + 1)).dy (oneD (wr.heap.size + 1)).dy false = _; rw [oneD_dy]; rfl) (ptI_ok HY.out).2.2)
  clear kY q0 q1 q2
  go_wp2_with (at_builtin; refine wpList_append_ivg rfl _ _ rfl wi _ cur rfl hown _ _ rfl (ptI (oneD (wr.heap.size + 1))) hzA (by simp [ptI, oneD]) hcl ?_; intro a' c' w9 hown9 hgrow hblk)
  go_roundg (gk - 1)
  case measure => have := HPC.out.2.2; omega
  case rel =>
  refine ⟨cur ++ [ptI (oneD (wr.heap.size + 1))], by have := HPC.out.2.2; rw [List.length_append, List.length_singleton]; omega, by rw [List.length_append, List.length_singleton]; go_num, by simpa using hown9, ?_, ok_snoc HPC.out.2.1 HZ.out.2⟩
  rw [plR_snoc, HPC.out.1, List.length_append, List.length_singleton, rowF_snoc, HZ.out.1, HP.out]


end Go.Proofs.YtpocjagbhiahdaaGreatDoor
