/-
  Walks: matrix.each of a valid matrix of intervals.
-/
import Derived.Deep.AppendLies
import Derived.Deep.RegionLaw
import Derived.Test.YtpocjagbhiahdaaGreatDoorMR2I
import Derived.Deep.DeepFit
import Derived.Laws.EntriesVeiled
import Derived.Test.YtpocjagbhiahdaaGreatDoorMRoC
import Derived.Test.YtpocjagbhiahdaaGreatDoorMIvA
import Derived.Test.YtpocjagbhiahdaaGreatDoorMRoAdd
import Derived.Deep.LoopGhost
import Derived.Test.YtpocjagbhiahdaaGreatDoorMOwnX
import Derived.Test.YtpocjagbhiahdaaGreatDoorMIvM
import Derived.Test.YtpocjagbhiahdaaGreatDoorMNear
namespace Go.Proofs.YtpocjagbhiahdaaGreatDoor
open Go.RowKit
def MatV (w : World) (X : List (List PI)) (e : Ending) (w' : World) : Prop :=
  ∃ (a : Option Addr) (Z : List (List RI)) (c : Nat), e = .returned (.slice a Z.length c) ∧ RowM w' a Z ∧ plM Z = X ∧ okM Z ∧ Z.length ≤ 1100000 ∧ Kp w w'
def FunE (P : Program) (g : FuncId) (cap : Array Value) (w : World) (m : List (List RI)) (F : Nat → Nat → PI) : Prop :=
  Enters P g ∧ ∀ (i j : Nat) (r : List RI) (x : RI), m[i]? = some r → r[j]? = some x → ∀ w1, Kp w w1 → x.rd w1 → Calls P g (#[.int .i64 (i : Int), .int .i64 (j : Int), .agg #[.bool x.lo.neg, .slice x.lo.a x.lo.xs.length x.lo.c, .int .i64 x.lo.e, .bool x.hi.neg, .slice x.hi.a x.hi.xs.length x.hi.c, .int .i64 x.hi.e, .bool x.all]] ++ cap) w1 (IvOut w1 (F i j))
set_option maxRecDepth 100000 in
set_option maxHeartbeats 8000000 in
theorem each_any (a : Option Addr) (m : List (List RI)) (c : Nat) (g : FuncId) (cap : Array Value) (F : Nat → Nat → PI) (w : World) (hm : RowM w a m) (hvm : vlM m = true) (hF : FunE Tryz.prog g cap w m F) :
    Calls Tryz.prog 120 #[.slice a m.length c, .func (.func g) #[] cap] w (MatV w (tabM m.length (colsM m) F)) := by
  have hgo : ∀ args w, (callFunc g args).run Tryz.prog w = .ok (.enter g args) w := hF.1
  have HFN := Lib.hid hF.2
  have HM := Lib.hid hm
  have HVM := Lib.hid hvm
  have hml := (vlM_iff.1 hvm).1
  have hmc := (vlM_iff.1 hvm).2.1
  have hm8 : m.length ≤ 8 := hml.2
  have hmk := make_rows (m.length : Int) m.length rfl (by omega)
  obtain ⟨r0, hr0, hc0⟩ := vlM_row0 hvm
  obtain ⟨ba, oa, _, _, rfl, _⟩ := hm 0 r0 hr0
  have HML := Lib.hid (And.intro hml hmc)
  clear hF hm hvm hml hmc hr0 hc0
  go_enter Tryz.func120, Tryz.ntmps120
  go_wp2_with fail
  have hO := OutH.made w m.length
  generalize hW1 : w.alloc _ = W1 at *
  have HO := Lib.hid hO
  clear hW1 hmk hO
  go_loopg [15] m.length (fun q v wr => ∃ R : List (List RI), R.length + q = m.length ∧ v = .int .i64 (R.length : Int) ∧ OutH w wr w.heap.size m.length R ∧ plM R = tabM R.length (colsM m) F ∧ okM R)
  case atStart => exact ⟨[], by simp, rfl, HO.out, rfl, fun r h => by simp at h⟩
  case round =>
  obtain ⟨R, hRq, rfl, hO, hpl, hok⟩ := hrel
  clear HO
  have HH := Lib.hid (And.intro hpl hok)
  have HOH := Lib.hid hO
  have hkr := hO.2.1
  clear hpl hok hO
  by_cases hlt : R.length < m.length
  rotate_left
  · have hRe : R.length = m.length := by omega
    have HRe := Lib.hid hRe
    clear hRe hRq
    go_wp2_with fail
    go_ret
    refine ⟨some ⟨w.heap.size, 0, none⟩, R, m.length, by rw [HRe.out]; rfl, HOH.out.rowM, ?_, HH.out.2, by have := HML.out; have := HRe.out; omega, hkr⟩
    rw [HH.out.1, HRe.out]
  obtain ⟨r, hr⟩ : ∃ r, m[R.length]? = some r := ⟨_, List.getElem?_eq_getElem hlt⟩
  obtain ⟨b2, o2, ra2, rc2, e2, hrc, hrow, hrl⟩ := HM.out R.length r hr
  cases e2
  have hrc1 := hkr.cell hrc
  have HRW := Lib.hid (And.intro hr (And.intro hrow (vlM_row HVM.out hr)))
  have HMO := Lib.hid (HOH.out.open hlt)
  have Hlt := Lib.hid (And.intro hlt hRq)
  have hr8 : r.length ≤ 8 := by have := (vlM_row HVM.out hr).1; have := HML.out.2; omega
  clear hr hrc hrow hrl hRq
  have hk1 : (0 : Int) ≤ (R.length : Int) := by omega
  have hk2 : (R.length : Int) < (m.length : Int) := by omega
  go_wp2_with fail
  clear HOH hrc1
  obtain ⟨gk1, hgk1⟩ : ∃ x : Nat, x = gk := ⟨_, rfl⟩
  subst hgk1
  obtain ⟨wr1, hwr1⟩ : ∃ x : World, x = wr := ⟨_, rfl⟩
  subst hwr1
  go_loopg [22] r.length (fun q v wr => ∃ (u : Value) (cur : List RI), cur.length + q = r.length ∧ v = .int .i64 (cur.length : Int) ∧ OutM w wr w.heap.size m.length R u cur ∧ plR cur = rowF cur.length (F R.length) ∧ ∀ x ∈ cur, x.vl = true)
  case atStart => exact ⟨_, [], by simp, rfl, HMO.out, rfl, fun x h => by simp at h⟩
  case round =>
  obtain ⟨u, cur, hcq, rfl, hM, hpc, hvc⟩ := hrel
  clear HMO
  by_cases hlt2 : cur.length < r.length
  rotate_left
  · have hce : cur.length = r.length := by omega
    have hcl : cur.length ≤ 1100000 := by omega
    have hcc := Lib.hid (hM.close hcl)
    have HPC := Lib.hid (And.intro hpc (And.intro hvc hce))
    clear hpc hvc hcq hM hce hcl
    go_wp2_with fail
    go_roundg (gk1 - 1)
    case measure => have := Hlt.out; omega
    case rel =>
    refine ⟨R ++ [cur], by have := Hlt.out; rw [List.length_append, List.length_singleton]; omega, by rw [List.length_append, List.length_singleton]; go_num, hcc.out, ?_, okM_snoc HH.out.2 HPC.out.2.1⟩
    rw [plM_snoc, HH.out.1, List.length_append, List.length_singleton, tabM_snoc, HPC.out.1, HPC.out.2.2, HRW.out.2.2.1]
  obtain ⟨x, hx⟩ : ∃ x, r[cur.length]? = some x := ⟨_, List.getElem?_eq_getElem hlt2⟩
  obtain ⟨b3, o3, e3, hrd, s0, s1, s2, s3, s4, s5, s6⟩ := (HRW.out.2.1.kp hM.2.1.1) cur.length x hx
  subst e3
  have HPC := Lib.hid (And.intro hpc (And.intro hvc (And.intro hcq hlt2)))
  have hj1 : (0 : Int) ≤ (cur.length : Int) := by omega
  have hj2 : (cur.length : Int) < (r.length : Int) := by omega
  have kA := (Kp.refl wr).alloc (.cells #[.bool x.lo.neg, .slice x.lo.a x.lo.xs.length x.lo.c, .int .i64 x.lo.e, .bool x.hi.neg, .slice x.hi.a x.hi.xs.length x.hi.c, .int .i64 x.hi.e, .bool x.all] 44)
  have HX := Lib.hid (And.intro hx (hrd.kp kA))
  have hM3 := hM.kp kA
  clear hpc hvc hcq hx hrd hM
  go_upto_region 8 with fail
  clear s0 s1 s2 s3 s4 s5 s6
  generalize hW3 : wr.alloc _ = W3 at *
  have hxb : W3.cell? ⟨wr.heap.size, 0, none⟩ = some (.bool x.lo.neg) ∧ W3.cell? ⟨wr.heap.size, 1, none⟩ = some (.slice x.lo.a x.lo.xs.length x.lo.c) ∧ W3.cell? ⟨wr.heap.size, 2, none⟩ = some (.int .i64 x.lo.e) ∧ W3.cell? ⟨wr.heap.size, 3, none⟩ = some (.bool x.hi.neg) ∧ W3.cell? ⟨wr.heap.size, 4, none⟩ = some (.slice x.hi.a x.hi.xs.length x.hi.c) ∧ W3.cell? ⟨wr.heap.size, 5, none⟩ = some (.int .i64 x.hi.e) ∧ W3.cell? ⟨wr.heap.size, 6, none⟩ = some (.bool x.all) := by rw [← hW3]; simp
  clear hW3 kA
  have kd := (Kp.refl W3).drew
  have hk3' := hM3.2.1.1
  obtain ⟨hc1, hf1⟩ := hM3.cellF
  have HM3 := Lib.hid hM3
  have HCF := Lib.hid (HFN.out R.length cur.length r x HRW.out.1 HX.out.1 W3.drew (hk3'.trans kd) (HX.out.2.kp kd))
  have HD3 := Lib.hid kd
  have hcl : cur.length + 1 ≤ 9000000 := by omega
  obtain ⟨s0, s1, s2, s3, s4, s5, s6⟩ := id hxb
  clear hM3 hk3' kd
  go_region_law (first
    | (go_simp; (with_reducible refine HCF.out.mono ?_); rintro e v1 ⟨z, rfl, hz, hzp, hzv, j1⟩
       have kZ := (HD3.out.trans j1).alloc (.cells #[.bool z.lo.neg, .slice z.lo.a z.lo.xs.length z.lo.c, .int .i64 z.lo.e, .bool z.hi.neg, .slice z.hi.a z.hi.xs.length z.hi.c, .int .i64 z.hi.e, .bool z.all] 44)
       have hM4 := HM3.out.kp (HD3.out.trans j1)
       obtain ⟨hc1, hf1⟩ := hM4.cellF
       have hM5 := HM3.out.kp kZ
       obtain ⟨hc1, hf1⟩ := hM5.cellF
       have hown := hM5.2.1
       have hzA := hz.kp ((Kp.refl v1).alloc (.cells #[.bool z.lo.neg, .slice z.lo.a z.lo.xs.length z.lo.c, .int .i64 z.lo.e, .bool z.hi.neg, .slice z.hi.a z.hi.xs.length z.hi.c, .int .i64 z.hi.e, .bool z.all] 44))
       have ZP := Lib.hid (And.intro hzp hzv)
       have HM5 := Lib.hid hM5
       clear hz hzp hzv kZ hM5 hM4)
    | (refine step_append_ivg (by rfl) _ _ (by rfl) w u cur (by rfl) hown _ _ (by rfl) z hzA (by simp) hcl ?_; intro a' c' w9 hown9 hgrow hblk
       obtain ⟨hc1, hf1⟩ := HM5.out.cellG hgrow)
    | fail)
  all_goals
    have hst := OutM.step HM5.out hown9 hgrow hblk HM5.out.2.1.noU
    go_wp2_with fail
    go_roundg (gk - 1)
    case measure => have := HPC.out.2.2; omega
    case rel =>
      refine ⟨_, cur ++ [z], by have := HPC.out.2.2; rw [List.length_append, List.length_singleton]; omega, by rw [List.length_append, List.length_singleton]; go_num, hst, ?_, ok_snoc HPC.out.2.1 ZP.out.2⟩
      rw [plR_snoc, HPC.out.1, List.length_append, List.length_singleton, rowF_snoc, ZP.out.1]
def colsN (m : List (List RD)) : Nat := (m.headD []).length
def vlN (m : List (List RD)) : Bool := decide (1 ≤ m.length ∧ m.length ≤ 8) && (decide (1 ≤ colsN m ∧ colsN m ≤ 8) && m.all fun r => decide (r.length = colsN m) && r.all RD.vl)
theorem vlN_iff {m : List (List RD)} : vlN m = true ↔ (1 ≤ m.length ∧ m.length ≤ 8) ∧ (1 ≤ colsN m ∧ colsN m ≤ 8) ∧ ∀ r ∈ m, r.length = colsN m ∧ ∀ x ∈ r, x.vl = true := by
  unfold vlN
  simp only [Bool.and_eq_true, decide_eq_true_eq, List.all_eq_true]
theorem enters_DValid : Enters Tryz.prog 59 := fun _ _ => by kernel_rfl
theorem storeFN (a : Addr) (f : Fn) (ts cap : Array Value) (m : Mode) (w : World) : (store a (.func f ts cap) m).run Tryz.prog w = Go.stored Tryz.prog w a (.func f ts cap) m := run_store _ w a _ m rfl
set_option maxHeartbeats 2000000 in
theorem recn11_any (x : RD) (b : Nat) (w : World) (hx : x.rd w) (hf : w.cell? ⟨b, 0, none⟩ = some (.func (.func 59) #[] #[])) :
    Calls Tryz.prog 118 #[.agg #[.bool x.neg, .slice x.a x.xs.length x.c, .int .i64 x.e], .pointer (some ⟨b, 0, none⟩)] w fun e w' => e = .returned (.bool (!x.vl)) ∧ Kp w w' := by
  have hgo : ∀ args w, (callFunc 59 args).run Tryz.prog w = .ok (.enter 59 args) w := enters_DValid
  have k1 := (Kp.refl w).alloc (.cells #[.bool x.neg, .slice x.a x.xs.length x.c, .int .i64 x.e] 42)
  have hf1 := k1.cell hf
  have hlt := World.block_lt_of_cell? w _ hf
  clear hf
  go_enter Tryz.func118, Tryz.ntmps118
  go_wp2_with fail
  go_fit (Valid_raw x _ (hx.kp k1))
  rintro e w1 ⟨rfl, k2⟩
  cases hv : x.vl with
  | false =>
    go_wp2_with fail
    go_ret
    exact ⟨ret_bool (by rw [hv]; rfl), k1.trans k2⟩
  | true =>
  go_wp2_with fail
  go_ret
  exact ⟨ret_bool (by rw [hv]; rfl), k1.trans k2⟩
def badN (m : List (List RD)) (r : List RD) : Bool := decide (r.length ≠ colsN m) || r.any fun x => !x.vl
theorem vlN_any (m : List (List RD)) : vlN m = (decide (1 ≤ m.length ∧ m.length ≤ 8) && (decide (1 ≤ colsN m ∧ colsN m ≤ 8) && !m.any (badN m))) := by
  unfold vlN
  congr 2
  rw [List.not_any_eq_all_not]
  congr 1
  funext r
  unfold badN
  rw [Bool.not_or, List.not_any_eq_all_not]
  simp
set_option maxHeartbeats 4000000 in
theorem recn1_any (m : List (List RD)) (r : List RD) (a ra : Option Addr) (c rc bm bo : Nat) (w : World) (hm : RowN w a m) (hm0 : 0 < m.length) (hl : m.length ≤ 1100000) (hr : RowD w ra r) (hrl : r.length ≤ 1100000)
    (h1 : w.cell? ⟨bm, 0, none⟩ = some (.slice a m.length c)) (h2 : w.cell? ⟨bo, 0, none⟩ = some (.func (.func 59) #[] #[])) :
    Calls Tryz.prog 117 #[.slice ra r.length rc, .pointer (some ⟨bm, 0, none⟩), .pointer (some ⟨bo, 0, none⟩)] w fun e w' => e = .returned (.bool (badN m r)) ∧ Kp w w' := by
  obtain ⟨r0, h0⟩ : ∃ r0, m[0]? = some r0 := ⟨_, List.getElem?_eq_getElem hm0⟩
  have hc0 : colsN m = r0.length := by
    unfold colsN
    cases m with
    | nil => simp at hm0
    | cons x t => simp at h0; subst h0; rfl
  obtain ⟨b, o, ra0, rc0, rfl, hcell, _, hl0⟩ := hm 0 r0 h0
  rw [Nat.add_zero] at hcell
  have HB := Lib.hid (show badN m r = (decide (r.length ≠ r0.length) || r.any fun x => !x.vl) by unfold badN; rw [hc0])
  have hp : AnsD Tryz.prog 118 #[.pointer (some ⟨bo, 0, none⟩)] w r (fun x => !x.vl) := ⟨fun _ _ => by kernel_rfl, fun x hx w1 k => recn11_any x bo w1 ((hr.rd hx).kp k) (k.cell h2)⟩
  have hcn := containsD ra r rc _ _ w _ hrl hr hp
  have HC := Lib.hid hcn
  have hi0 : (0 : Int) < (m.length : Int) := by omega
  clear hm hm0 hc0 h0 hp hcn hr
  by_cases hlen : r.length = r0.length
  rotate_left
  · have hne : ((r.length : Int) != (r0.length : Int)) = true := by simpa using (by omega : ¬ (r.length : Int) = (r0.length : Int))
    have HB2 := Lib.hid (show badN m r = true by rw [HB.out, decide_eq_true (by simpa using hlen)]; rfl)
    clear hlen HB
    go_enter Tryz.func117, Tryz.ntmps117
    go_wp2_with fail
    go_ret
    exact ⟨ret_bool HB2.out.symm, .refl _⟩
  have hne : ((r.length : Int) != (r0.length : Int)) = false := by rw [hlen]; simp
  have HB2 := Lib.hid (show badN m r = r.any (fun x => !x.vl) by rw [HB.out, decide_eq_false (by simpa using hlen)]; rfl)
  clear hlen HB
  go_enter Tryz.func117, Tryz.ntmps117
  go_wp2_with fail
  go_fit HC.out
  rintro e w1 ⟨rfl, k1⟩
  go_wp2_with fail
  go_ret
  exact ⟨ret_bool HB2.out.symm, k1⟩
set_option maxHeartbeats 4000000 in
theorem recn_any (a : Option Addr) (m : List (List RD)) (c : Nat) (w : World) (hm : RowN w a m) (hl : m.length ≤ 1100000) :
    Calls Tryz.prog 72 #[.slice a m.length c, .func (.func 59) #[] #[]] w fun e w' => e = .returned (.bool (vlN m)) ∧ Kp w w' := by
  have HV := Lib.hid (vlN_any m)
  have hsf := storeFN
  rcases Nat.eq_zero_or_pos m.length with hz | hpos
  · have H := Lib.hid (show vlN m = false by rw [HV.out, hz]; rfl)
    rw [hz]
    clear hz HV
    go_enter Tryz.func72, Tryz.ntmps72
    go_wp2_with fail
    go_ret
    exact ⟨ret_bool H.out.symm, ((Kp.refl w).alloc _).alloc _⟩
  have hn1 : ¬ (m.length : Int) < 1 := by omega
  by_cases h8 : 8 < m.length
  · have H := Lib.hid (show vlN m = false by rw [HV.out, decide_eq_false (by omega)]; rfl)
    have hn2 : (8 : Int) < (m.length : Int) := by omega
    clear h8 HV hpos
    go_enter Tryz.func72, Tryz.ntmps72
    go_wp2_with fail
    go_ret
    exact ⟨ret_bool H.out.symm, ((Kp.refl w).alloc _).alloc _⟩
  have hn2 : ¬ (8 : Int) < (m.length : Int) := by omega
  have hn3 : (0 : Int) < (m.length : Int) := by omega
  obtain ⟨r0, h0⟩ : ∃ r0, m[0]? = some r0 := ⟨_, List.getElem?_eq_getElem hpos⟩
  have hc0 : colsN m = r0.length := by
    unfold colsN
    cases m with
    | nil => simp at hpos
    | cons x t => simp at h0; subst h0; rfl
  obtain ⟨b, o, ra0, rc0, rfl, hcell, _, hl0⟩ := hm 0 r0 h0
  rw [Nat.add_zero] at hcell
  have HV1 := Lib.hid (show vlN m = (decide (1 ≤ r0.length ∧ r0.length ≤ 8) && !m.any (badN m)) by rw [HV.out, hc0, decide_eq_true (by omega)]; rfl)
  have hk2 := ((Kp.refl w).alloc (.cells #[.slice (some ⟨b, o, none⟩) m.length c] 22)).alloc (.cells #[.func (.func 59) #[] #[]] 63)
  have hcl := hk2.cell hcell
  have hlt := World.block_lt_of_cell? w _ hcell
  by_cases hz : r0.length = 0
  · have H := Lib.hid (show vlN m = false by rw [HV1.out, decide_eq_false (by omega)]; rfl)
    have g1 : (r0.length : Int) < 1 := by omega
    clear HV HV1 h0 hc0 hm hpos h8 hz
    go_enter Tryz.func72, Tryz.ntmps72
    go_wp2_with fail
    go_ret
    exact ⟨ret_bool H.out.symm, ((Kp.refl w).alloc _).alloc _⟩
  have g1 : ¬ (r0.length : Int) < 1 := by omega
  by_cases h9 : 8 < r0.length
  · have H := Lib.hid (show vlN m = false by rw [HV1.out, decide_eq_false (by omega)]; rfl)
    have g2 : (8 : Int) < (r0.length : Int) := by omega
    clear HV HV1 h0 hc0 hm hpos h8 hz h9
    go_enter Tryz.func72, Tryz.ntmps72
    go_wp2_with fail
    go_ret
    exact ⟨ret_bool H.out.symm, ((Kp.refl w).alloc _).alloc _⟩
  have g2 : ¬ (8 : Int) < (r0.length : Int) := by omega
  have H := Lib.hid (show vlN m = !m.any (badN m) by rw [HV1.out, decide_eq_true (by omega)]; rfl)
  have HM := Lib.hid hm
  have Hpos := Lib.hid hpos
  clear HV HV1 h0 hc0 hpos h8 hz h9 hm
  go_enter Tryz.func72, Tryz.ntmps72
  go_wp2_with fail
  have hA : AnsN Tryz.prog 117 #[.pointer (some ⟨w.heap.size, 0, none⟩), .pointer (some ⟨w.heap.size + 1, 0, none⟩)] ((w.alloc (.cells #[.slice (some ⟨b, o, none⟩) m.length c] 22)).alloc (.cells #[.func (.func 59) #[] #[]] 63)) m (badN m) := ⟨fun _ _ => by kernel_rfl, fun r hr ra rc w1 k hrow => recn1_any m r _ ra c rc _ _ w1 ((HM.out.kp hk2).kp k) Hpos.out hl hrow.1 hrow.2 (k.cell (by simp)) (k.cell (by simp))⟩
  go_fit (containsN _ m c _ _ _ (badN m) hl (HM.out.kp hk2) hA)
  rintro e w1 ⟨rfl, k1⟩
  go_wp2_with fail
  go_ret
  exact ⟨ret_bool H.out.symm, hk2.trans k1⟩
theorem vlN_row {m : List (List RD)} (h : vlN m = true) {i : Nat} {r : List RD} (hi : m[i]? = some r) : r.length = colsN m ∧ ∀ x ∈ r, x.vl = true :=
  (vlN_iff.1 h).2.2 r (List.mem_of_getElem? hi)
theorem vlN_row0 {m : List (List RD)} (h : vlN m = true) : ∃ r, m[0]? = some r ∧ r.length = colsN m := by
  have h0 : 0 < m.length := (vlN_iff.1 h).1.1
  exact ⟨_, List.getElem?_eq_getElem h0, (vlN_row h (List.getElem?_eq_getElem h0)).1⟩
def FunN (P : Program) (g : FuncId) (cap : Array Value) (w : World) (m : List (List RD)) (F : Nat → Nat → PI) : Prop :=
  Enters P g ∧ ∀ (i j : Nat) (r : List RD) (x : RD), m[i]? = some r → r[j]? = some x → ∀ w1, Kp w w1 → x.rd w1 → Calls P g (#[.int .i64 (i : Int), .int .i64 (j : Int), .agg #[.bool x.neg, .slice x.a x.xs.length x.c, .int .i64 x.e]] ++ cap) w1 (IvOut w1 (F i j))
set_option maxRecDepth 100000 in
set_option maxHeartbeats 8000000 in
theorem eachN_any (a : Option Addr) (m : List (List RD)) (c : Nat) (g : FuncId) (cap : Array Value) (F : Nat → Nat → PI) (w : World) (hm : RowN w a m) (hvm : vlN m = true) (hF : FunN Tryz.prog g cap w m F) :
    Calls Tryz.prog 73 #[.slice a m.length c, .func (.func g) #[] cap] w (MatV w (tabM m.length (colsN m) F)) := by
  have hgo : ∀ args w, (callFunc g args).run Tryz.prog w = .ok (.enter g args) w := hF.1
  have HFN := Lib.hid hF.2
  have HM := Lib.hid hm
  have HVM := Lib.hid hvm
  have hml := (vlN_iff.1 hvm).1
  have hmc := (vlN_iff.1 hvm).2.1
  have hm8 : m.length ≤ 8 := hml.2
  have hmk := make_rows (m.length : Int) m.length rfl (by omega)
  obtain ⟨r0, hr0, hc0⟩ := vlN_row0 hvm
  obtain ⟨ba, oa, _, _, rfl, _⟩ := hm 0 r0 hr0
  have HML := Lib.hid (And.intro hml hmc)
  clear hF hm hvm hml hmc hr0 hc0
  go_enter Tryz.func73, Tryz.ntmps73
  go_wp2_with fail
  have hO := OutH.made w m.length
  generalize hW1 : w.alloc _ = W1 at *
  have HO := Lib.hid hO
  clear hW1 hmk hO
  go_loopg [15] m.length (fun q v wr => ∃ R : List (List RI), R.length + q = m.length ∧ v = .int .i64 (R.length : Int) ∧ OutH w wr w.heap.size m.length R ∧ plM R = tabM R.length (colsN m) F ∧ okM R)
  case atStart => exact ⟨[], by simp, rfl, HO.out, rfl, fun r h => by simp at h⟩
  case round =>
  obtain ⟨R, hRq, rfl, hO, hpl, hok⟩ := hrel
  clear HO
  have HH := Lib.hid (And.intro hpl hok)
  have HOH := Lib.hid hO
  have hkr := hO.2.1
  clear hpl hok hO
  by_cases hlt : R.length < m.length
  rotate_left
  · have hRe : R.length = m.length := by omega
    have HRe := Lib.hid hRe
    clear hRe hRq
    go_wp2_with fail
    go_ret
    refine ⟨some ⟨w.heap.size, 0, none⟩, R, m.length, by rw [HRe.out]; rfl, HOH.out.rowM, ?_, HH.out.2, by have := HML.out; have := HRe.out; omega, hkr⟩
    rw [HH.out.1, HRe.out]
  obtain ⟨r, hr⟩ : ∃ r, m[R.length]? = some r := ⟨_, List.getElem?_eq_getElem hlt⟩
  obtain ⟨b2, o2, ra2, rc2, e2, hrc, hrow, hrl⟩ := HM.out R.length r hr
  cases e2
  have hrc1 := hkr.cell hrc
  have HRW := Lib.hid (And.intro hr (And.intro hrow (vlN_row HVM.out hr)))
  have HMO := Lib.hid (HOH.out.open hlt)
  have Hlt := Lib.hid (And.intro hlt hRq)
  have hr8 : r.length ≤ 8 := by have := (vlN_row HVM.out hr).1; have := HML.out.2; omega
  clear hr hrc hrow hrl hRq
  have hk1 : (0 : Int) ≤ (R.length : Int) := by omega
  have hk2 : (R.length : Int) < (m.length : Int) := by omega
  go_wp2_with fail
  clear HOH hrc1
  obtain ⟨gk1, hgk1⟩ : ∃ x : Nat, x = gk := ⟨_, rfl⟩
  subst hgk1
  obtain ⟨wr1, hwr1⟩ : ∃ x : World, x = wr := ⟨_, rfl⟩
  subst hwr1
  go_loopg [22] r.length (fun q v wr => ∃ (u : Value) (cur : List RI), cur.length + q = r.length ∧ v = .int .i64 (cur.length : Int) ∧ OutM w wr w.heap.size m.length R u cur ∧ plR cur = rowF cur.length (F R.length) ∧ ∀ x ∈ cur, x.vl = true)
  case atStart => exact ⟨_, [], by simp, rfl, HMO.out, rfl, fun x h => by simp at h⟩
  case round =>
  obtain ⟨u, cur, hcq, rfl, hM, hpc, hvc⟩ := hrel
  clear HMO
  by_cases hlt2 : cur.length < r.length
  rotate_left
  · have hce : cur.length = r.length := by omega
    have hcl : cur.length ≤ 1100000 := by omega
    have hcc := Lib.hid (hM.close hcl)
    have HPC := Lib.hid (And.intro hpc (And.intro hvc hce))
    clear hpc hvc hcq hM hce hcl
    go_wp2_with fail
    go_roundg (gk1 - 1)
    case measure => have := Hlt.out; omega
    case rel =>
    refine ⟨R ++ [cur], by have := Hlt.out; rw [List.length_append, List.length_singleton]; omega, by rw [List.length_append, List.length_singleton]; go_num, hcc.out, ?_, okM_snoc HH.out.2 HPC.out.2.1⟩
    rw [plM_snoc, HH.out.1, List.length_append, List.length_singleton, tabM_snoc, HPC.out.1, HPC.out.2.2, HRW.out.2.2.1]
  obtain ⟨x, hx⟩ : ∃ x, r[cur.length]? = some x := ⟨_, List.getElem?_eq_getElem hlt2⟩
  obtain ⟨b3, o3, e3, hrd, s0, s1, s2⟩ := (HRW.out.2.1.kp hM.2.1.1) cur.length x hx
  subst e3
  have HPC := Lib.hid (And.intro hpc (And.intro hvc (And.intro hcq hlt2)))
  have hj1 : (0 : Int) ≤ (cur.length : Int) := by omega
  have hj2 : (cur.length : Int) < (r.length : Int) := by omega
  have kA := (Kp.refl wr).alloc (.cells #[.bool x.neg, .slice x.a x.xs.length x.c, .int .i64 x.e] 42)
  have HX := Lib.hid (And.intro hx (hrd.kp kA))
  have hM3 := hM.kp kA
  clear hpc hvc hcq hx hrd hM
  go_upto_region 8 with fail
  clear s0 s1 s2
  generalize hW3 : wr.alloc _ = W3 at *
  have hxb : W3.cell? ⟨wr.heap.size, 0, none⟩ = some (.bool x.neg) ∧ W3.cell? ⟨wr.heap.size, 1, none⟩ = some (.slice x.a x.xs.length x.c) ∧ W3.cell? ⟨wr.heap.size, 2, none⟩ = some (.int .i64 x.e) := by rw [← hW3]; simp
  clear hW3 kA
  have kd := (Kp.refl W3).drew
  have hk3' := hM3.2.1.1
  obtain ⟨hc1, hf1⟩ := hM3.cellF
  have HM3 := Lib.hid hM3
  have HCF := Lib.hid (HFN.out R.length cur.length r x HRW.out.1 HX.out.1 W3.drew (hk3'.trans kd) (HX.out.2.kp kd))
  have HD3 := Lib.hid kd
  have hcl : cur.length + 1 ≤ 9000000 := by omega
  obtain ⟨s0, s1, s2⟩ := id hxb
  clear hM3 hk3' kd
  go_region_law (first
    | (go_simp; (with_reducible refine HCF.out.mono ?_); rintro e v1 ⟨z, rfl, hz, hzp, hzv, j1⟩
       have kZ := (HD3.out.trans j1).alloc (.cells #[.bool z.lo.neg, .slice z.lo.a z.lo.xs.length z.lo.c, .int .i64 z.lo.e, .bool z.hi.neg, .slice z.hi.a z.hi.xs.length z.hi.c, .int .i64 z.hi.e, .bool z.all] 44)
       have hM4 := HM3.out.kp (HD3.out.trans j1)
       obtain ⟨hc1, hf1⟩ := hM4.cellF
       have hM5 := HM3.out.kp kZ
       obtain ⟨hc1, hf1⟩ := hM5.cellF
       have hown := hM5.2.1
       have hzA := hz.kp ((Kp.refl v1).alloc (.cells #[.bool z.lo.neg, .slice z.lo.a z.lo.xs.length z.lo.c, .int .i64 z.lo.e, .bool z.hi.neg, .slice z.hi.a z.hi.xs.length z.hi.c, .int .i64 z.hi.e, .bool z.all] 44))
       have ZP := Lib.hid (And.intro hzp hzv)
       have HM5 := Lib.hid hM5
       clear hz hzp hzv kZ hM5 hM4)
    | (refine step_append_ivg (by rfl) _ _ (by rfl) w u cur (by rfl) hown _ _ (by rfl) z hzA (by simp) hcl ?_; intro a' c' w9 hown9 hgrow hblk
       obtain ⟨hc1, hf1⟩ := HM5.out.cellG hgrow)
    | fail)
  all_goals
    have hst := OutM.step HM5.out hown9 hgrow hblk HM5.out.2.1.noU
    go_wp2_with fail
    go_roundg (gk - 1)
    case measure => have := HPC.out.2.2; omega
    case rel =>
      refine ⟨_, cur ++ [z], by have := HPC.out.2.2; rw [List.length_append, List.length_singleton]; omega, by rw [List.length_append, List.length_singleton]; go_num, hst, ?_, ok_snoc HPC.out.2.1 ZP.out.2⟩
      rw [plR_snoc, HPC.out.1, List.length_append, List.length_singleton, rowF_snoc, ZP.out.1]
def ptP (d : RD) : PI := ⟨d.dy, d.dy, false⟩
def atN (m : List (List RD)) (i j : Nat) : RD := (m.getD i []).getD j rdZero
theorem atN_eq {m : List (List RD)} {i j : Nat} {r : List RD} {x : RD} (hr : m[i]? = some r) (hx : r[j]? = some x) : atN m i j = x := by
  unfold atN
  rw [List.getD_eq_getElem?_getD, List.getD_eq_getElem?_getD, hr]
  show (r[j]?).getD rdZero = x
  rw [hx]; rfl
def ofF (m : List (List RD)) : List (List PI) := if vlN m = true then tabM m.length (colsN m) (fun i j => ptP (atN m i j)) else []
set_option maxHeartbeats 2000000 in
theorem of1_any (i j : Int) (x : RD) (w : World) (hx : x.ok w) :
    Calls Tryz.prog 74 #[.int .i64 i, .int .i64 j, .agg #[.bool x.neg, .slice x.a x.xs.length x.c, .int .i64 x.e]] w (IvOut w (ptP x)) := by
  have k1 := ((Kp.refl w).alloc (.cells #[.bool x.neg, .slice x.a x.xs.length x.c, .int .i64 x.e] 42)).alloc (.cells #[.bool false, .slice none 0 0, .int .i64 0, .bool false, .slice none 0 0, .int .i64 0, .bool false] 44)
  have HX := Lib.hid (hx.kp k1)
  have hV := Var7.new (w.alloc (.cells #[.bool x.neg, .slice x.a x.xs.length x.c, .int .i64 x.e] 42)) 44
  rw [World.size_alloc] at hV
  have hS : ((w.alloc (.cells #[.bool x.neg, .slice x.a x.xs.length x.c, .int .i64 x.e] 42)).alloc (.cells #[.bool false, .slice none 0 0, .int .i64 0, .bool false, .slice none 0 0, .int .i64 0, .bool false] 44)).cell? ⟨w.heap.size, 0, none⟩ = some (.bool x.neg) ∧ ((w.alloc (.cells #[.bool x.neg, .slice x.a x.xs.length x.c, .int .i64 x.e] 42)).alloc (.cells #[.bool false, .slice none 0 0, .int .i64 0, .bool false, .slice none 0 0, .int .i64 0, .bool false] 44)).cell? ⟨w.heap.size, 1, none⟩ = some (.slice x.a x.xs.length x.c) ∧ ((w.alloc (.cells #[.bool x.neg, .slice x.a x.xs.length x.c, .int .i64 x.e] 42)).alloc (.cells #[.bool false, .slice none 0 0, .int .i64 0, .bool false, .slice none 0 0, .int .i64 0, .bool false] 44)).cell? ⟨w.heap.size, 2, none⟩ = some (.int .i64 x.e) := keep3 ((Kp.refl _).alloc _) (by simp)
  clear hx
  go_enter Tryz.func74, Tryz.ntmps74
  go_upto_region 1 with fail
  generalize ((w.alloc _).alloc _) = W at *
  obtain ⟨s0, s1, s2⟩ := hS
  go_wp2_with fail
  go_fit (IPoint_pt x _ HX.out)
  rintro e w1 ⟨rfl, k2⟩
  have hV1 := hV.kp k2
  have HX1 := Lib.hid (HX.out.kp k2)
  have hk1 := k1.trans k2
  clear hV s0 s1 s2 k1 k2
  obtain ⟨⟨q0, q1, q2, q3, q4, q5, q6⟩, f0, f1, f2, f3, f4, f5, f6⟩ := id hV1
  go_wp2_with fail
  generalize hW9 : ((((((w1.setCell _ _).setCell _ _).setCell _ _).setCell _ _).setCell _ _).setCell _ _).setCell _ _ = W9
  obtain ⟨⟨s0, s1, s2, s3, s4, s5, s6⟩, hU⟩ := stored7 (show Box7 w1 _ _ _ _ _ _ _ _ from ⟨q0, q1, q2, q3, q4, q5, q6⟩) (fun _ h => by cases h) (fun _ h => by cases h) (fun _ h => by cases h) (fun _ h => by cases h) (fun _ h => by cases h) (fun _ h => by cases h) (fun _ h => by cases h) _ _ _ _ _ _ _ hW9
  clear hW9 q0 q1 q2 q3 q4 q5 q6 f0 f1 f2 f3 f4 f5 f6
  refine bodyPost_ret (v := .agg #[.bool (ptI x).lo.neg, .slice (ptI x).lo.a (ptI x).lo.xs.length (ptI x).lo.c, .int .i64 (ptI x).lo.e, .bool (ptI x).hi.neg, .slice (ptI x).hi.a (ptI x).hi.xs.length (ptI x).hi.c, .int .i64 (ptI x).hi.e, .bool (ptI x).all]) (by simp [results, Tryz.results74, go_sem, s0, s1, s2, s3, s4, s5, s6]) rfl ?_
  exact ⟨ptI x, rfl, hU.rdI (ptI_rd HX1.out.1), rfl, (ptI_ok HX1.out).2.2, hU.2.2.1 _ hk1 (by omega)⟩
set_option maxHeartbeats 2000000 in
theorem mof_any (a : Option Addr) (m : List (List RD)) (c : Nat) (w : World) (hm : RowN w a m) (hl : m.length ≤ 1100000) :
    Calls Tryz.prog 31 #[.slice a m.length c] w (MatV w (ofF m)) := by
  have H := Lib.hid (recn_any a m c w hm hl)
  have HM := Lib.hid hm
  obtain ⟨D, hD⟩ : ∃ D, D = ofF m := ⟨_, rfl⟩
  have HD := Lib.hid hD
  rw [← hD]
  clear hm hD
  go_enter Tryz.func31, Tryz.ntmps31
  go_wp2_with fail
  go_fit H.out
  rintro e w1 ⟨rfl, k1⟩
  cases hv : vlN m with
  | false =>
    have HE := Lib.hid (show D = [] by rw [HD.out]; unfold ofF; rw [if_neg (by rw [hv]; decide)])
    clear hv
    go_wp2_with fail
    go_ret
    rw [HE.out]
    exact ⟨none, [], 0, rfl, fun i r h => by simp at h, rfl, fun r h => by simp at h, by simp, k1⟩
  | true =>
  have HV := Lib.hid hv
  have HE := Lib.hid (eachN_any a m c 74 #[] (fun i j => ptP (atN m i j)) w1 (HM.out.kp k1) hv ⟨fun _ _ => by kernel_rfl, fun i j r x hi hj w2 k2 hx => by
    have := of1_any (i : Int) (j : Int) x w2 ⟨hx, (vlN_row HV.out hi).2 x (List.mem_of_getElem? hj)⟩
    have e : (fun i j => ptP (atN m i j)) i j = ptP x := by show ptP (atN m i j) = _; rw [atN_eq hi hj]
    rw [e]; exact this⟩)
  have HE2 := Lib.hid (show D = tabM m.length (colsN m) (fun i j => ptP (atN m i j)) by rw [HD.out]; unfold ofF; rw [if_pos hv])
  clear hv
  go_wp2_with fail
  go_fit HE.out
  rintro e w2 ⟨a2, Z, c2, rfl, r2, p2, o2, l2, k2⟩
  go_wp2_with fail
  go_ret
  rw [HE2.out]
  exact ⟨a2, Z, c2, rfl, r2, p2, o2, l2, k1.trans k2⟩
end Go.Proofs.YtpocjagbhiahdaaGreatDoor
section
namespace Go.Proofs.YtpocjagbhiahdaaGreatDoor
open Go.RowKit

def insP (X Y : PI) : Prop := Y.all = true ∨ X.all = false ∧ Y.all = false ∧ Y.lo.iv ≤ X.lo.iv ∧ X.hi.iv ≤ Y.hi.iv
theorem insP.refl (X : PI) : insP X X := by
  cases h : X.all with
  | false => exact .inr ⟨h, h, Int.le_refl _, Int.le_refl _⟩
  | true => exact .inl h
theorem insP.whole (X : PI) : insP X .whole := .inl rfl
section
variable {K p q : Nat} {S T : Int}
end
theorem mkI_good {l h : Dy × Int} (hl : l.2 = 0) (hh : h.2 = 0) : mkI l h = ⟨l.1, h.1, false⟩ := by unfold mkI; rw [if_neg (by omega)]
theorem mkI_bad {l h : Dy × Int} (hb : l.2 ≠ 0 ∨ h.2 ≠ 0) : mkI l h = .whole := by unfold mkI; rw [if_pos hb]
end Go.Proofs.YtpocjagbhiahdaaGreatDoor
end
namespace Go.Proofs.YtpocjagbhiahdaaGreatDoor
open Go.RowKit
def hasV (X : PI) (v : Int) : Prop := X.all = true ∨ X.lo.iv ≤ v ∧ v ≤ X.hi.iv
theorem hasV.lo {X : PI} (h : X.ok) : hasV X X.lo.iv := .inr ⟨Int.le_refl _, PI.ok_le h⟩
theorem hasV.hi {X : PI} (h : X.ok) : hasV X X.hi.iv := .inr ⟨PI.ok_le h, Int.le_refl _⟩
theorem hasV.whole (v : Int) : hasV .whole v := .inl rfl
def idP (i t : Nat) : PI := if i = t then pnI 1 1 else pnI 0 0
theorem intD_zero : intD 0 = .zero := rfl
set_option maxHeartbeats 4000000 in
theorem r5point_any (d : RD) (w : World) (_hy : d.ok w) :
    Calls Tryz.prog 84 #[.agg #[.bool d.neg, .slice d.a d.xs.length d.c, .int .i64 d.e]] w fun e w' => e = .returned (.agg #[.bool (ptI d).lo.neg, .slice (ptI d).lo.a (ptI d).lo.xs.length (ptI d).lo.c, .int .i64 (ptI d).lo.e, .bool (ptI d).hi.neg, .slice (ptI d).hi.a (ptI d).hi.xs.length (ptI d).hi.c, .int .i64 (ptI d).hi.e, .bool (ptI d).all]) ∧ Kp w w' := by
  go_enter Tryz.func84, Tryz.ntmps84
  go_upto_region 1 with fail
  generalize hW : ((w.alloc _).alloc _) = W at *
  have hk : Kp w W := hW ▸ ((Kp.refl w).alloc _).alloc _
  obtain ⟨s0, s1, s2⟩ : W.cell? ⟨w.heap.size, 0, none⟩ = some (.bool d.neg) ∧ W.cell? ⟨w.heap.size, 1, none⟩ = some (.slice d.a d.xs.length d.c) ∧ W.cell? ⟨w.heap.size, 2, none⟩ = some (.int .i64 d.e) := by rw [← hW]; simp
  have hV : Var7 W (w.heap.size + 1) := by
    rw [← hW]
    have := Var7.new (w.alloc (.cells #[.bool d.neg, .slice d.a d.xs.length d.c, .int .i64 d.e] 42)) 44
    rwa [World.size_alloc] at this
  clear hW
  obtain ⟨⟨q0, q1, q2, q3, q4, q5, q6⟩, f0, f1, f2, f3, f4, f5, f6⟩ := hV
  go_wp2_with fail
  generalize hW9 : ((((((W.setCell _ _).setCell _ _).setCell _ _).setCell _ _).setCell _ _).setCell _ _).setCell _ _ = W9
  obtain ⟨⟨s0, s1, s2, s3, s4, s5, s6⟩, hU⟩ := stored7 (show Box7 W _ _ _ _ _ _ _ _ from ⟨q0, q1, q2, q3, q4, q5, q6⟩) (fun _ h => by cases h) (fun _ h => by cases h) (fun _ h => by cases h) (fun _ h => by cases h) (fun _ h => by cases h) (fun _ h => by cases h) (fun _ h => by cases h) _ _ _ _ _ _ _ hW9
  clear hW9 q0 q1 q2 q3 q4 q5 q6 f0 f1 f2 f3 f4 f5 f6
  refine bodyPost_ret (v := .agg #[.bool (ptI d).lo.neg, .slice (ptI d).lo.a (ptI d).lo.xs.length (ptI d).lo.c, .int .i64 (ptI d).lo.e, .bool (ptI d).hi.neg, .slice (ptI d).hi.a (ptI d).hi.xs.length (ptI d).hi.c, .int .i64 (ptI d).hi.e, .bool (ptI d).all]) (by simp [results, Tryz.results84, go_sem, s0, s1, s2, s3, s4, s5, s6, ptI]) rfl ?_
  exact ⟨rfl, hU.2.2.1 _ hk (by omega)⟩
def hasX (X : PI) (v : Int) : Bool := X.all || (decide (X.lo.iv ≤ v) && decide (v ≤ X.hi.iv))
theorem hasX_of {X : PI} {v : Int} (h : hasV X v) : hasX X v = true := by
  unfold hasX
  rcases h with h | ⟨h1, h2⟩
  · rw [h]; rfl
  rw [decide_eq_true h1, decide_eq_true h2]; simp
theorem IHas_vl (x : RI) (d : RD) (w : World) (hx : x.rd w) (hd : d.rd w) (vx : x.vl = true) (vd : d.vl = true) :
    Calls Tryz.prog 21 #[.agg #[.bool x.lo.neg, .slice x.lo.a x.lo.xs.length x.lo.c, .int .i64 x.lo.e, .bool x.hi.neg, .slice x.hi.a x.hi.xs.length x.hi.c, .int .i64 x.hi.e, .bool x.all], .agg #[.bool d.neg, .slice d.a d.xs.length d.c, .int .i64 d.e]] w fun e w' => e = .returned (.bool (hasX x.pl d.iv)) ∧ Kp w w' := by
  cases hxa : x.all with
  | false =>
    have ox : x.ok w := ok_of hx vx hxa
    refine (Has_ok x d w ox ⟨hd, vd⟩).mono ?_
    rintro e w' ⟨rfl, k⟩
    refine ⟨?_, k⟩
    congr 2
    unfold hasX hasI
    rw [show x.pl.all = false from hxa]
    rfl
  | true =>
  have H := Lib.hid (show hasX x.pl d.iv = true by unfold hasX; rw [show x.pl.all = true from hxa]; rfl)
  have C1 := Lib.hid (fun (W : World) (k : Kp w W) => IValid_raw x W (hx.kp k))
  have C2 := Lib.hid (fun (W : World) (k : Kp w W) => Valid_rok d W ⟨hd.kp k, vd⟩)
  rw [vx, hxa] at C1
  clear hx hd vx vd hxa
  go_enter Tryz.func21, Tryz.ntmps21
  go_wp2_with fail
  generalize hW : ((w.alloc _).alloc _) = W at *
  have hk : Kp w W := hW ▸ ((Kp.refl w).alloc _).alloc _
  have hS : (W.cell? ⟨w.heap.size, 0, none⟩ = some (.bool x.lo.neg) ∧ W.cell? ⟨w.heap.size, 1, none⟩ = some (.slice x.lo.a x.lo.xs.length x.lo.c) ∧ W.cell? ⟨w.heap.size, 2, none⟩ = some (.int .i64 x.lo.e) ∧ W.cell? ⟨w.heap.size, 3, none⟩ = some (.bool x.hi.neg) ∧ W.cell? ⟨w.heap.size, 4, none⟩ = some (.slice x.hi.a x.hi.xs.length x.hi.c) ∧ W.cell? ⟨w.heap.size, 5, none⟩ = some (.int .i64 x.hi.e) ∧ W.cell? ⟨w.heap.size, 6, none⟩ = some (.bool true)) ∧ W.cell? ⟨w.heap.size + 1, 0, none⟩ = some (.bool d.neg) ∧ W.cell? ⟨w.heap.size + 1, 1, none⟩ = some (.slice d.a d.xs.length d.c) ∧ W.cell? ⟨w.heap.size + 1, 2, none⟩ = some (.int .i64 d.e) := by rw [← hW]; exact keep73 (Kp.refl _) (by simp)
  clear hW
  go_fit (C1.out _ hk)
  rintro e w1 ⟨rfl, k1⟩
  have hS1 := keep73 k1 hS
  have hk1 := hk.trans k1
  obtain ⟨⟨s0, s1, s2, s3, s4, s5, s6⟩, t0, t1, t2⟩ := id hS1
  go_wp2_with fail
  go_fit (C2.out _ hk1)
  rintro e w2 ⟨rfl, k2⟩
  clear s0 s1 s2 s3 s4 s5 s6 t0 t1 t2
  obtain ⟨⟨s0, s1, s2, s3, s4, s5, s6⟩, t0, t1, t2⟩ := keep73 k2 hS1
  have hk2 := hk1.trans k2
  go_wp2_with fail
  go_ret
  exact ⟨ret_bool H.out.symm, hk2⟩

end Go.Proofs.YtpocjagbhiahdaaGreatDoor
section
namespace Go.Proofs.YtpocjagbhiahdaaGreatDoor

theorem bits_quo {a b : Nat} (hb : b ≠ 0) (k : Nat) (h : bits b + k ≤ bits a) (hk : 0 < k) : k ≤ bits (a / b) := by
  have ha : a ≠ 0 := fun e => by subst e; rw [bits_zero] at h; omega
  have h1 := two_pow_le_of_bits ha
  have h2 := lt_two_pow_bits b
  have h3 : 2 ^ (k - 1) * b ≤ a := by
    refine Nat.le_trans ?_ h1
    calc 2 ^ (k - 1) * b ≤ 2 ^ (k - 1) * 2 ^ bits b := Nat.mul_le_mul_left _ (Nat.le_of_lt h2)
      _ = 2 ^ (k - 1 + bits b) := by rw [Nat.pow_add]
      _ ≤ 2 ^ (bits a - 1) := Nat.pow_le_pow_right (by decide) (by omega)
  have h4 := (Nat.le_div_iff_mul_le (by omega : 0 < b)).2 h3
  have h5 := lt_bits.2 h4
  omega
def quoR (s : Bool) (m n : Nat) (e : Int) (p : Nat) (up : Bool) (K : Nat) : Option Dy := rndS s (m * 2 ^ K / n) (e - K) (decide (0 < bits (m * 2 ^ K % n))) p up
theorem quo_more {m n K d : Nat} (hn : n ≠ 0) : m * 2 ^ (K + d) / n / 2 ^ d = m * 2 ^ K / n ∧ ((0 < bits (m * 2 ^ (K + d) % n) ∨ m * 2 ^ (K + d) / n % 2 ^ d ≠ 0) ↔ 0 < bits (m * 2 ^ K % n)) := by
  have hp := two_pow_pos d
  have e1 : m * 2 ^ (K + d) / n / 2 ^ d = m * 2 ^ K / n := by
    rw [Nat.div_div_eq_div_mul, Nat.pow_add, ← Nat.mul_assoc, Nat.mul_div_mul_right _ _ hp]
  refine ⟨e1, ?_⟩
  have b0 (x : Nat) : 0 < bits x ↔ x ≠ 0 := by
    constructor
    · intro h h0; subst h0; rw [bits_zero] at h; omega
    · exact bits_pos
  rw [b0, b0]
  have h1 := Nat.div_add_mod (m * 2 ^ (K + d)) n
  have h2 := Nat.div_add_mod (m * 2 ^ (K + d) / n) (2 ^ d)
  rw [e1] at h2
  have h3 := Nat.div_add_mod (m * 2 ^ K) n
  have h4 : m * 2 ^ (K + d) = m * 2 ^ K * 2 ^ d := by rw [Nat.pow_add, Nat.mul_assoc]
  have h5 := Nat.mod_lt (m * 2 ^ K) (Nat.pos_of_ne_zero hn)
  generalize m * 2 ^ (K + d) / n % 2 ^ d = f at *
  generalize m * 2 ^ (K + d) % n = r at *
  generalize m * 2 ^ (K + d) / n = Q at *
  generalize m * 2 ^ K % n = r0 at *
  generalize m * 2 ^ K / n = q at *
  have e2 : n * f + r = r0 * 2 ^ d := by
    have e3 : n * Q = n * (2 ^ d * q) + n * f := by rw [← Nat.mul_add, h2]
    have e4 : m * 2 ^ K * 2 ^ d = n * q * 2 ^ d + r0 * 2 ^ d := by rw [← Nat.add_mul, h3]
    have e5 : n * (2 ^ d * q) = n * q * 2 ^ d := by rw [Nat.mul_comm (2 ^ d), Nat.mul_assoc]
    omega
  constructor
  · intro h h0
    rw [h0, Nat.zero_mul] at e2
    have h6 : n * f = 0 := by omega
    rcases Nat.mul_eq_zero.1 h6 with h7 | h7
    · exact hn h7
    rcases h with h | h
    · omega
    exact h h7
  intro h
  rcases Nat.eq_zero_or_pos r with h6 | h6
  · refine .inr fun h7 => ?_
    rw [h6, h7, Nat.mul_zero] at e2
    rcases Nat.mul_eq_zero.1 e2.symm with h8 | h8
    · exact h h8
    omega
  exact .inl (by omega)
theorem quoR_more {s : Bool} {m n p K d : Nat} {e : Int} {up : Bool} (hm : m ≠ 0) (hn : n ≠ 0) (hp : 0 < p) (hK : p + 1 + bits n ≤ bits m + K) : quoR s m n e p up (K + d) = quoR s m n e p up K := by
  have hpd := two_pow_pos d
  obtain ⟨h1, h2⟩ := quo_more (m := m) (K := K) (d := d) hn
  have hb : p < bits (m * 2 ^ K / n) := by
    have := bits_quo hn (p + 1) (a := m * 2 ^ K) (by rw [bits_mul_pow hm]; omega) (by omega)
    omega
  have hq0 : m * 2 ^ K / n ≠ 0 := fun h => by rw [h, bits_zero] at hb; omega
  have h3 := Nat.div_add_mod (m * 2 ^ (K + d) / n) (2 ^ d)
  rw [h1] at h3
  have hf := Nat.mod_lt (m * 2 ^ (K + d) / n) hpd
  have hmore : (decide (0 < bits (m * 2 ^ (K + d) % n)) || decide (m * 2 ^ (K + d) / n % 2 ^ d ≠ 0)) = decide (0 < bits (m * 2 ^ K % n)) := by
    rw [← Bool.decide_or]
    exact decide_eq_decide.2 h2
  unfold quoR rndS sgnR
  have key (u : Bool) : rcut (m * 2 ^ (K + d) / n) (e - (K + d : Nat)) (decide (0 < bits (m * 2 ^ (K + d) % n))) p u = rcut (m * 2 ^ K / n) (e - K) (decide (0 < bits (m * 2 ^ K % n))) p u := by
    have := rcut_more (m := m * 2 ^ K / n) (k := d) (f := m * 2 ^ (K + d) / n % 2 ^ d) (p := p) (e := e - K) (more := decide (0 < bits (m * 2 ^ (K + d) % n))) (up := u) hq0 hf (fun _ => hb)
    rw [hmore, Nat.mul_comm (m * 2 ^ K / n), h3] at this
    rw [this]
    congr 1
    omega
  rw [key]
end Go.Proofs.YtpocjagbhiahdaaGreatDoor
end
