/-
  Walks: matrix.each of a valid matrix of intervals.
-/
import Derived.Deep.AppendLies
import Derived.Deep.RegionLaw
import Derived.Test.YtbhmhfnfceakoaaGreatDoorMMulN
import Derived.Deep.DeepFit
import Derived.Laws.EntriesVeiled
import Derived.Test.YtbhmhfnfceakoaaGreatDoorMIdxN
import Derived.Test.YtbhmhfnfceakoaaGreatDoorMIvA
import Derived.Test.YtbhmhfnfceakoaaGreatDoorMRoAdd
import Derived.Deep.LoopGhost
import Derived.Deep.RegionHeld3
import Derived.Test.YtbhmhfnfceakoaaGreatDoorMNrmP
import Derived.Test.YtbhmhfnfceakoaaGreatDoorMKnuE
namespace Go.Proofs.YtbhmhfnfceakoaaGreatDoor
open Go.RowKit
def MatV (w : World) (X : List (List PI)) (e : Ending) (w' : World) : Prop :=
  ∃ (a : Option Addr) (Z : List (List RI)) (c : Nat), e = .returned (.slice a Z.length c) ∧ RowM w' a Z ∧ plM Z = X ∧ okM Z ∧ Z.length ≤ 1100000 ∧ Kp w w'
def FunE (P : Program) (g : FuncId) (cap : Array Value) (w : World) (m : List (List RI)) (F : Nat → Nat → PI) : Prop :=
  Enters P g ∧ ∀ (i j : Nat) (r : List RI) (x : RI), m[i]? = some r → r[j]? = some x → ∀ w1, Kp w w1 → x.rd w1 → Calls P g (#[.int .i64 (i : Int), .int .i64 (j : Int), .agg #[.bool x.lo.neg, .slice x.lo.a x.lo.xs.length x.lo.c, .int .i64 x.lo.e, .bool x.hi.neg, .slice x.hi.a x.hi.xs.length x.hi.c, .int .i64 x.hi.e, .bool x.all]] ++ cap) w1 (IvOut w1 (F i j))
set_option maxRecDepth 100000 in
set_option maxHeartbeats 8000000 in
theorem each_any (a : Option Addr) (m : List (List RI)) (c : Nat) (g : FuncId) (cap : Array Value) (F : Nat → Nat → PI) (w : World) (hm : RowM w a m) (hvm : vlM m = true) (hF : FunE Tryz.prog g cap w m F) :
    Calls Tryz.prog 223 #[.slice a m.length c, .func (.func g) #[] cap] w (MatV w (tabM m.length (colsM m) F)) := by
  have hgo : ∀ args w, (callFunc g args).run Tryz.prog w = .ok (.enter g args) w := hF.1
  have HFN := Lib.hid hF.2
  have HM := Lib.hid hm
  have HVM := Lib.hid hvm
  have hml := (vlM_iff.1 hvm).1
  have hmc := (vlM_iff.1 hvm).2.1
  have hm8 : m.length ≤ 8 := hml.2
  have hmk := make_rows (m.length : Int) m.length rfl (by omega)
  obtain ⟨r0, hr0, hc0⟩ := vlM_row0 hvm
  obtain ⟨ba, oa, _, _, rfl, _⟩ := hm 0 r0 hr0
  have HML := Lib.hid (And.intro hml hmc)
  clear hF hm hvm hml hmc hr0 hc0
  go_enter Tryz.func223, Tryz.ntmps223
  go_wp2_with fail
  have hO := OutH.made w m.length
  generalize hW1 : w.alloc _ = W1 at *
  have HO := Lib.hid hO
  clear hW1 hmk hO
  go_loopg [15] m.length (fun q v wr => ∃ R : List (List RI), R.length + q = m.length ∧ v = .int .i64 (R.length : Int) ∧ OutH w wr w.heap.size m.length R ∧ plM R = tabM R.length (colsM m) F ∧ okM R)
  case atStart => exact ⟨[], by simp, rfl, HO.out, rfl, fun r h => by simp at h⟩
  case round =>
  obtain ⟨R, hRq, rfl, hO, hpl, hok⟩ := hrel
  clear HO
  have HH := Lib.hid (And.intro hpl hok)
  have HOH := Lib.hid hO
  have hkr := hO.2.1
  clear hpl hok hO
  by_cases hlt : R.length < m.length
  rotate_left
  · have hRe : R.length = m.length := by omega
    have HRe := Lib.hid hRe
    clear hRe hRq
    go_wp2_with fail
    go_ret
    refine ⟨some ⟨w.heap.size, 0, none⟩, R, m.length, by rw [HRe.out]; rfl, HOH.out.rowM, ?_, HH.out.2, by have := HML.out; have := HRe.out; omega, hkr⟩
    rw [HH.out.1, HRe.out]
  obtain ⟨r, hr⟩ : ∃ r, m[R.length]? = some r := ⟨_, List.getElem?_eq_getElem hlt⟩
  obtain ⟨b2, o2, ra2, rc2, e2, hrc, hrow, hrl⟩ := HM.out R.length r hr
  cases e2
  have hrc1 := hkr.cell hrc
  have HRW := Lib.hid (And.intro hr (And.intro hrow (vlM_row HVM.out hr)))
  have HMO := Lib.hid (HOH.out.open hlt)
  have Hlt := Lib.hid (And.intro hlt hRq)
  have hr8 : r.length ≤ 8 := by have := (vlM_row HVM.out hr).1; have := HML.out.2; omega
  clear hr hrc hrow hrl hRq
  have hk1 : (0 : Int) ≤ (R.length : Int) := by omega
  have hk2 : (R.length : Int) < (m.length : Int) := by omega
  go_wp2_with fail
  clear HOH hrc1
  obtain ⟨gk1, hgk1⟩ : ∃ x : Nat, x = gk := ⟨_, rfl⟩
  subst hgk1
  obtain ⟨wr1, hwr1⟩ : ∃ x : World, x = wr := ⟨_, rfl⟩
  subst hwr1
  go_loopg [22] r.length (fun q v wr => ∃ (u : Value) (cur : List RI), cur.length + q = r.length ∧ v = .int .i64 (cur.length : Int) ∧ OutM w wr w.heap.size m.length R u cur ∧ plR cur = rowF cur.length (F R.length) ∧ ∀ x ∈ cur, x.vl = true)
  case atStart => exact ⟨_, [], by simp, rfl, HMO.out, rfl, fun x h => by simp at h⟩
  case round =>
  obtain ⟨u, cur, hcq, rfl, hM, hpc, hvc⟩ := hrel
  clear HMO
  by_cases hlt2 : cur.length < r.length
  rotate_left
  · have hce : cur.length = r.length := by omega
    have hcl : cur.length ≤ 1100000 := by omega
    have hcc := Lib.hid (hM.close hcl)
    have HPC := Lib.hid (And.intro hpc (And.intro hvc hce))
    clear hpc hvc hcq hM hce hcl
    go_wp2_with fail
    go_roundg (gk1 - 1)
    case measure => have := Hlt.out; omega
    case rel =>
    refine ⟨R ++ [cur], by have := Hlt.out; rw [List.length_append, List.length_singleton]; omega, by rw [List.length_append, List.length_singleton]; go_num, hcc.out, ?_, okM_snoc HH.out.2 HPC.out.2.1⟩
    rw [plM_snoc, HH.out.1, List.length_append, List.length_singleton, tabM_snoc, HPC.out.1, HPC.out.2.2, HRW.out.2.2.1]
  obtain ⟨x, hx⟩ : ∃ x, r[cur.length]? = some x := ⟨_, List.getElem?_eq_getElem hlt2⟩
  obtain ⟨b3, o3, e3, hrd, s0, s1, s2, s3, s4, s5, s6⟩ := (HRW.out.2.1.kp hM.2.1.1) cur.length x hx
  subst e3
  have HPC := Lib.hid (And.intro hpc (And.intro hvc (And.intro hcq hlt2)))
  have hj1 : (0 : Int) ≤ (cur.length : Int) := by omega
  have hj2 : (cur.length : Int) < (r.length : Int) := by omega
  have kA := (Kp.refl wr).alloc (.cells #[.bool x.lo.neg, .slice x.lo.a x.lo.xs.length x.lo.c, .int .i64 x.lo.e, .bool x.hi.neg, .slice x.hi.a x.hi.xs.length x.hi.c, .int .i64 x.hi.e, .bool x.all] 44)
  have HX := Lib.hid (And.intro hx (hrd.kp kA))
  have hM3 := hM.kp kA
  clear hpc hvc hcq hx hrd hM
  go_upto_region 8 with fail
  clear s0 s1 s2 s3 s4 s5 s6
  generalize hW3 : wr.alloc _ = W3 at *
  have hxb : W3.cell? ⟨wr.heap.size, 0, none⟩ = some (.bool x.lo.neg) ∧ W3.cell? ⟨wr.heap.size, 1, none⟩ = some (.slice x.lo.a x.lo.xs.length x.lo.c) ∧ W3.cell? ⟨wr.heap.size, 2, none⟩ = some (.int .i64 x.lo.e) ∧ W3.cell? ⟨wr.heap.size, 3, none⟩ = some (.bool x.hi.neg) ∧ W3.cell? ⟨wr.heap.size, 4, none⟩ = some (.slice x.hi.a x.hi.xs.length x.hi.c) ∧ W3.cell? ⟨wr.heap.size, 5, none⟩ = some (.int .i64 x.hi.e) ∧ W3.cell? ⟨wr.heap.size, 6, none⟩ = some (.bool x.all) := by rw [← hW3]; simp
  clear hW3 kA
  have kd := (Kp.refl W3).drew
  have hk3' := hM3.2.1.1
  obtain ⟨hc1, hf1⟩ := hM3.cellF
  have HM3 := Lib.hid hM3
  have HCF := Lib.hid (HFN.out R.length cur.length r x HRW.out.1 HX.out.1 W3.drew (hk3'.trans kd) (HX.out.2.kp kd))
  have HD3 := Lib.hid kd
  have hcl : cur.length + 1 ≤ 9000000 := by omega
  obtain ⟨s0, s1, s2, s3, s4, s5, s6⟩ := id hxb
  clear hM3 hk3' kd
  go_region_law (first
    | (go_simp; (with_reducible refine HCF.out.mono ?_); rintro e v1 ⟨z, rfl, hz, hzp, hzv, j1⟩
       have kZ := (HD3.out.trans j1).alloc (.cells #[.bool z.lo.neg, .slice z.lo.a z.lo.xs.length z.lo.c, .int .i64 z.lo.e, .bool z.hi.neg, .slice z.hi.a z.hi.xs.length z.hi.c, .int .i64 z.hi.e, .bool z.all] 44)
       have hM4 := HM3.out.kp (HD3.out.trans j1)
       obtain ⟨hc1, hf1⟩ := hM4.cellF
       have hM5 := HM3.out.kp kZ
       obtain ⟨hc1, hf1⟩ := hM5.cellF
       have hown := hM5.2.1
       have hzA := hz.kp ((Kp.refl v1).alloc (.cells #[.bool z.lo.neg, .slice z.lo.a z.lo.xs.length z.lo.c, .int .i64 z.lo.e, .bool z.hi.neg, .slice z.hi.a z.hi.xs.length z.hi.c, .int .i64 z.hi.e, .bool z.all] 44))
       have ZP := Lib.hid (And.intro hzp hzv)
       have HM5 := Lib.hid hM5
       clear hz hzp hzv kZ hM5 hM4)
    | (refine step_append_ivg (by rfl) _ _ (by rfl) w u cur (by rfl) hown _ _ (by rfl) z hzA (by simp) hcl ?_; intro a' c' w9 hown9 hgrow hblk
       obtain ⟨hc1, hf1⟩ := HM5.out.cellG hgrow)
    | fail)
  all_goals
    have hst := OutM.step HM5.out hown9 hgrow hblk HM5.out.2.1.noU
    go_wp2_with fail
    go_roundg (gk - 1)
    case measure => have := HPC.out.2.2; omega
    case rel =>
      refine ⟨_, cur ++ [z], by have := HPC.out.2.2; rw [List.length_append, List.length_singleton]; omega, by rw [List.length_append, List.length_singleton]; go_num, hst, ?_, ok_snoc HPC.out.2.1 ZP.out.2⟩
      rw [plR_snoc, HPC.out.1, List.length_append, List.length_singleton, rowF_snoc, ZP.out.1]
def colsN (m : List (List RD)) : Nat := (m.headD []).length
def vlN (m : List (List RD)) : Bool := decide (1 ≤ m.length ∧ m.length ≤ 8) && (decide (1 ≤ colsN m ∧ colsN m ≤ 8) && m.all fun r => decide (r.length = colsN m) && r.all RD.vl)
theorem vlN_iff {m : List (List RD)} : vlN m = true ↔ (1 ≤ m.length ∧ m.length ≤ 8) ∧ (1 ≤ colsN m ∧ colsN m ≤ 8) ∧ ∀ r ∈ m, r.length = colsN m ∧ ∀ x ∈ r, x.vl = true := by
  unfold vlN
  simp only [Bool.and_eq_true, decide_eq_true_eq, List.all_eq_true]
theorem enters_DValid : Enters Tryz.prog 56 := fun _ _ => by kernel_rfl
theorem storeFN (a : Addr) (f : Fn) (ts cap : Array Value) (m : Mode) (w : World) : (store a (.func f ts cap) m).run Tryz.prog w = Go.stored Tryz.prog w a (.func f ts cap) m := run_store _ w a _ m rfl
set_option maxHeartbeats 2000000 in
theorem recn11_any (x : RD) (b : Nat) (w : World) (hx : x.rd w) (hf : w.cell? ⟨b, 0, none⟩ = some (.func (.func 56) #[] #[])) :
    Calls Tryz.prog 199 #[.agg #[.bool x.neg, .slice x.a x.xs.length x.c, .int .i64 x.e], .pointer (some ⟨b, 0, none⟩)] w fun e w' => e = .returned (.bool (!x.vl)) ∧ Kp w w' := by
  have hgo : ∀ args w, (callFunc 56 args).run Tryz.prog w = .ok (.enter 56 args) w := enters_DValid
  have k1 := (Kp.refl w).alloc (.cells #[.bool x.neg, .slice x.a x.xs.length x.c, .int .i64 x.e] 38)
  have hf1 := k1.cell hf
  have hlt := World.block_lt_of_cell? w _ hf
  clear hf
  go_enter Tryz.func199, Tryz.ntmps199
  go_wp2_with fail
  go_fit (Valid_raw x _ (hx.kp k1))
  rintro e w1 ⟨rfl, k2⟩
  cases hv : x.vl with
  | false =>
    go_wp2_with fail
    go_ret
    exact ⟨ret_bool (by rw [hv]; rfl), k1.trans k2⟩
  | true =>
  go_wp2_with fail
  go_ret
  exact ⟨ret_bool (by rw [hv]; rfl), k1.trans k2⟩
def badN (m : List (List RD)) (r : List RD) : Bool := decide (r.length ≠ colsN m) || r.any fun x => !x.vl
theorem vlN_any (m : List (List RD)) : vlN m = (decide (1 ≤ m.length ∧ m.length ≤ 8) && (decide (1 ≤ colsN m ∧ colsN m ≤ 8) && !m.any (badN m))) := by
  unfold vlN
  congr 2
  rw [List.not_any_eq_all_not]
  congr 1
  funext r
  unfold badN
  rw [Bool.not_or, List.not_any_eq_all_not]
  simp
set_option maxHeartbeats 4000000 in
theorem recn1_any (m : List (List RD)) (r : List RD) (a ra : Option Addr) (c rc bm bo : Nat) (w : World) (hm : RowN w a m) (hm0 : 0 < m.length) (hl : m.length ≤ 1100000) (hr : RowD w ra r) (hrl : r.length ≤ 1100000)
    (h1 : w.cell? ⟨bm, 0, none⟩ = some (.slice a m.length c)) (h2 : w.cell? ⟨bo, 0, none⟩ = some (.func (.func 56) #[] #[])) :
    Calls Tryz.prog 198 #[.slice ra r.length rc, .pointer (some ⟨bm, 0, none⟩), .pointer (some ⟨bo, 0, none⟩)] w fun e w' => e = .returned (.bool (badN m r)) ∧ Kp w w' := by
  obtain ⟨r0, h0⟩ : ∃ r0, m[0]? = some r0 := ⟨_, List.getElem?_eq_getElem hm0⟩
  have hc0 : colsN m = r0.length := by
    unfold colsN
    cases m with
    | nil => simp at hm0
    | cons x t => simp at h0; subst h0; rfl
  obtain ⟨b, o, ra0, rc0, rfl, hcell, _, hl0⟩ := hm 0 r0 h0
  rw [Nat.add_zero] at hcell
  have HB := Lib.hid (show badN m r = (decide (r.length ≠ r0.length) || r.any fun x => !x.vl) by unfold badN; rw [hc0])
  have hp : AnsD Tryz.prog 199 #[.pointer (some ⟨bo, 0, none⟩)] w r (fun x => !x.vl) := ⟨fun _ _ => by kernel_rfl, fun x hx w1 k => recn11_any x bo w1 ((hr.rd hx).kp k) (k.cell h2)⟩
  have hcn := containsD ra r rc _ _ w _ hrl hr hp
  have HC := Lib.hid hcn
  have hi0 : (0 : Int) < (m.length : Int) := by omega
  clear hm hm0 hc0 h0 hp hcn hr
  by_cases hlen : r.length = r0.length
  rotate_left
  · have hne : ((r.length : Int) != (r0.length : Int)) = true := by simpa using (by omega : ¬ (r.length : Int) = (r0.length : Int))
    have HB2 := Lib.hid (show badN m r = true by rw [HB.out, decide_eq_true (by simpa using hlen)]; rfl)
    clear hlen HB
    go_enter Tryz.func198, Tryz.ntmps198
    go_wp2_with fail
    go_ret
    exact ⟨ret_bool HB2.out.symm, .refl _⟩
  have hne : ((r.length : Int) != (r0.length : Int)) = false := by rw [hlen]; simp
  have HB2 := Lib.hid (show badN m r = r.any (fun x => !x.vl) by rw [HB.out, decide_eq_false (by simpa using hlen)]; rfl)
  clear hlen HB
  go_enter Tryz.func198, Tryz.ntmps198
  go_wp2_with fail
  go_fit HC.out
  rintro e w1 ⟨rfl, k1⟩
  go_wp2_with fail
  go_ret
  exact ⟨ret_bool HB2.out.symm, k1⟩
set_option maxHeartbeats 4000000 in
theorem recn_any (a : Option Addr) (m : List (List RD)) (c : Nat) (w : World) (hm : RowN w a m) (hl : m.length ≤ 1100000) :
    Calls Tryz.prog 149 #[.slice a m.length c, .func (.func 56) #[] #[]] w fun e w' => e = .returned (.bool (vlN m)) ∧ Kp w w' := by
  have HV := Lib.hid (vlN_any m)
  have hsf := storeFN
  rcases Nat.eq_zero_or_pos m.length with hz | hpos
  · have H := Lib.hid (show vlN m = false by rw [HV.out, hz]; rfl)
    rw [hz]
    clear hz HV
    go_enter Tryz.func149, Tryz.ntmps149
    go_wp2_with fail
    go_ret
    exact ⟨ret_bool H.out.symm, ((Kp.refl w).alloc _).alloc _⟩
  have hn1 : ¬ (m.length : Int) < 1 := by omega
  by_cases h8 : 8 < m.length
  · have H := Lib.hid (show vlN m = false by rw [HV.out, decide_eq_false (by omega)]; rfl)
    have hn2 : (8 : Int) < (m.length : Int) := by omega
    clear h8 HV hpos
    go_enter Tryz.func149, Tryz.ntmps149
    go_wp2_with fail
    go_ret
    exact ⟨ret_bool H.out.symm, ((Kp.refl w).alloc _).alloc _⟩
  have hn2 : ¬ (8 : Int) < (m.length : Int) := by omega
  have hn3 : (0 : Int) < (m.length : Int) := by omega
  obtain ⟨r0, h0⟩ : ∃ r0, m[0]? = some r0 := ⟨_, List.getElem?_eq_getElem hpos⟩
  have hc0 : colsN m = r0.length := by
    unfold colsN
    cases m with
    | nil => simp at hpos
    | cons x t => simp at h0; subst h0; rfl
  obtain ⟨b, o, ra0, rc0, rfl, hcell, _, hl0⟩ := hm 0 r0 h0
  rw [Nat.add_zero] at hcell
  have HV1 := Lib.hid (show vlN m = (decide (1 ≤ r0.length ∧ r0.length ≤ 8) && !m.any (badN m)) by rw [HV.out, hc0, decide_eq_true (by omega)]; rfl)
  have hk2 := ((Kp.refl w).alloc (.cells #[.slice (some ⟨b, o, none⟩) m.length c] 23)).alloc (.cells #[.func (.func 56) #[] #[]] 80)
  have hcl := hk2.cell hcell
  have hlt := World.block_lt_of_cell? w _ hcell
  by_cases hz : r0.length = 0
  · have H := Lib.hid (show vlN m = false by rw [HV1.out, decide_eq_false (by omega)]; rfl)
    have g1 : (r0.length : Int) < 1 := by omega
    clear HV HV1 h0 hc0 hm hpos h8 hz
    go_enter Tryz.func149, Tryz.ntmps149
    go_wp2_with fail
    go_ret
    exact ⟨ret_bool H.out.symm, ((Kp.refl w).alloc _).alloc _⟩
  have g1 : ¬ (r0.length : Int) < 1 := by omega
  by_cases h9 : 8 < r0.length
  · have H := Lib.hid (show vlN m = false by rw [HV1.out, decide_eq_false (by omega)]; rfl)
    have g2 : (8 : Int) < (r0.length : Int) := by omega
    clear HV HV1 h0 hc0 hm hpos h8 hz h9
    go_enter Tryz.func149, Tryz.ntmps149
    go_wp2_with fail
    go_ret
    exact ⟨ret_bool H.out.symm, ((Kp.refl w).alloc _).alloc _⟩
  have g2 : ¬ (8 : Int) < (r0.length : Int) := by omega
  have H := Lib.hid (show vlN m = !m.any (badN m) by rw [HV1.out, decide_eq_true (by omega)]; rfl)
  have HM := Lib.hid hm
  have Hpos := Lib.hid hpos
  clear HV HV1 h0 hc0 hpos h8 hz h9 hm
  go_enter Tryz.func149, Tryz.ntmps149
  go_wp2_with fail
  have hA : AnsN Tryz.prog 198 #[.pointer (some ⟨w.heap.size, 0, none⟩), .pointer (some ⟨w.heap.size + 1, 0, none⟩)] ((w.alloc (.cells #[.slice (some ⟨b, o, none⟩) m.length c] 23)).alloc (.cells #[.func (.func 56) #[] #[]] 80)) m (badN m) := ⟨fun _ _ => by kernel_rfl, fun r hr ra rc w1 k hrow => recn1_any m r _ ra c rc _ _ w1 ((HM.out.kp hk2).kp k) Hpos.out hl hrow.1 hrow.2 (k.cell (by simp)) (k.cell (by simp))⟩
  go_fit (containsN _ m c _ _ _ (badN m) hl (HM.out.kp hk2) hA)
  rintro e w1 ⟨rfl, k1⟩
  go_wp2_with fail
  go_ret
  exact ⟨ret_bool H.out.symm, hk2.trans k1⟩
theorem vlN_row {m : List (List RD)} (h : vlN m = true) {i : Nat} {r : List RD} (hi : m[i]? = some r) : r.length = colsN m ∧ ∀ x ∈ r, x.vl = true :=
  (vlN_iff.1 h).2.2 r (List.mem_of_getElem? hi)
theorem vlN_row0 {m : List (List RD)} (h : vlN m = true) : ∃ r, m[0]? = some r ∧ r.length = colsN m := by
  have h0 : 0 < m.length := (vlN_iff.1 h).1.1
  exact ⟨_, List.getElem?_eq_getElem h0, (vlN_row h (List.getElem?_eq_getElem h0)).1⟩
def FunN (P : Program) (g : FuncId) (cap : Array Value) (w : World) (m : List (List RD)) (F : Nat → Nat → PI) : Prop :=
  Enters P g ∧ ∀ (i j : Nat) (r : List RD) (x : RD), m[i]? = some r → r[j]? = some x → ∀ w1, Kp w w1 → x.rd w1 → Calls P g (#[.int .i64 (i : Int), .int .i64 (j : Int), .agg #[.bool x.neg, .slice x.a x.xs.length x.c, .int .i64 x.e]] ++ cap) w1 (IvOut w1 (F i j))
set_option maxRecDepth 100000 in
set_option maxHeartbeats 8000000 in
theorem eachN_any (a : Option Addr) (m : List (List RD)) (c : Nat) (g : FuncId) (cap : Array Value) (F : Nat → Nat → PI) (w : World) (hm : RowN w a m) (hvm : vlN m = true) (hF : FunN Tryz.prog g cap w m F) :
    Calls Tryz.prog 150 #[.slice a m.length c, .func (.func g) #[] cap] w (MatV w (tabM m.length (colsN m) F)) := by
  have hgo : ∀ args w, (callFunc g args).run Tryz.prog w = .ok (.enter g args) w := hF.1
  have HFN := Lib.hid hF.2
  have HM := Lib.hid hm
  have HVM := Lib.hid hvm
  have hml := (vlN_iff.1 hvm).1
  have hmc := (vlN_iff.1 hvm).2.1
  have hm8 : m.length ≤ 8 := hml.2
  have hmk := make_rows (m.length : Int) m.length rfl (by omega)
  obtain ⟨r0, hr0, hc0⟩ := vlN_row0 hvm
  obtain ⟨ba, oa, _, _, rfl, _⟩ := hm 0 r0 hr0
  have HML := Lib.hid (And.intro hml hmc)
  clear hF hm hvm hml hmc hr0 hc0
  go_enter Tryz.func150, Tryz.ntmps150
  go_wp2_with fail
  have hO := OutH.made w m.length
  generalize hW1 : w.alloc _ = W1 at *
  have HO := Lib.hid hO
  clear hW1 hmk hO
  go_loopg [15] m.length (fun q v wr => ∃ R : List (List RI), R.length + q = m.length ∧ v = .int .i64 (R.length : Int) ∧ OutH w wr w.heap.size m.length R ∧ plM R = tabM R.length (colsN m) F ∧ okM R)
  case atStart => exact ⟨[], by simp, rfl, HO.out, rfl, fun r h => by simp at h⟩
  case round =>
  obtain ⟨R, hRq, rfl, hO, hpl, hok⟩ := hrel
  clear HO
  have HH := Lib.hid (And.intro hpl hok)
  have HOH := Lib.hid hO
  have hkr := hO.2.1
  clear hpl hok hO
  by_cases hlt : R.length < m.length
  rotate_left
  · have hRe : R.length = m.length := by omega
    have HRe := Lib.hid hRe
    clear hRe hRq
    go_wp2_with fail
    go_ret
    refine ⟨some ⟨w.heap.size, 0, none⟩, R, m.length, by rw [HRe.out]; rfl, HOH.out.rowM, ?_, HH.out.2, by have := HML.out; have := HRe.out; omega, hkr⟩
    rw [HH.out.1, HRe.out]
  obtain ⟨r, hr⟩ : ∃ r, m[R.length]? = some r := ⟨_, List.getElem?_eq_getElem hlt⟩
  obtain ⟨b2, o2, ra2, rc2, e2, hrc, hrow, hrl⟩ := HM.out R.length r hr
  cases e2
  have hrc1 := hkr.cell hrc
  have HRW := Lib.hid (And.intro hr (And.intro hrow (vlN_row HVM.out hr)))
  have HMO := Lib.hid (HOH.out.open hlt)
  have Hlt := Lib.hid (And.intro hlt hRq)
  have hr8 : r.length ≤ 8 := by have := (vlN_row HVM.out hr).1; have := HML.out.2; omega
  clear hr hrc hrow hrl hRq
  have hk1 : (0 : Int) ≤ (R.length : Int) := by omega
  have hk2 : (R.length : Int) < (m.length : Int) := by omega
  go_wp2_with fail
  clear HOH hrc1
  obtain ⟨gk1, hgk1⟩ : ∃ x : Nat, x = gk := ⟨_, rfl⟩
  subst hgk1
  obtain ⟨wr1, hwr1⟩ : ∃ x : World, x = wr := ⟨_, rfl⟩
  subst hwr1
  go_loopg [22] r.length (fun q v wr => ∃ (u : Value) (cur : List RI), cur.length + q = r.length ∧ v = .int .i64 (cur.length : Int) ∧ OutM w wr w.heap.size m.length R u cur ∧ plR cur = rowF cur.length (F R.length) ∧ ∀ x ∈ cur, x.vl = true)
  case atStart => exact ⟨_, [], by simp, rfl, HMO.out, rfl, fun x h => by simp at h⟩
  case round =>
  obtain ⟨u, cur, hcq, rfl, hM, hpc, hvc⟩ := hrel
  clear HMO
  by_cases hlt2 : cur.length < r.length
  rotate_left
  · have hce : cur.length = r.length := by omega
    have hcl : cur.length ≤ 1100000 := by omega
    have hcc := Lib.hid (hM.close hcl)
    have HPC := Lib.hid (And.intro hpc (And.intro hvc hce))
    clear hpc hvc hcq hM hce hcl
    go_wp2_with fail
    go_roundg (gk1 - 1)
    case measure => have := Hlt.out; omega
    case rel =>
    refine ⟨R ++ [cur], by have := Hlt.out; rw [List.length_append, List.length_singleton]; omega, by rw [List.length_append, List.length_singleton]; go_num, hcc.out, ?_, okM_snoc HH.out.2 HPC.out.2.1⟩
    rw [plM_snoc, HH.out.1, List.length_append, List.length_singleton, tabM_snoc, HPC.out.1, HPC.out.2.2, HRW.out.2.2.1]
  obtain ⟨x, hx⟩ : ∃ x, r[cur.length]? = some x := ⟨_, List.getElem?_eq_getElem hlt2⟩
  obtain ⟨b3, o3, e3, hrd, s0, s1, s2⟩ := (HRW.out.2.1.kp hM.2.1.1) cur.length x hx
  subst e3
  have HPC := Lib.hid (And.intro hpc (And.intro hvc (And.intro hcq hlt2)))
  have hj1 : (0 : Int) ≤ (cur.length : Int) := by omega
  have hj2 : (cur.length : Int) < (r.length : Int) := by omega
  have kA := (Kp.refl wr).alloc (.cells #[.bool x.neg, .slice x.a x.xs.length x.c, .int .i64 x.e] 38)
  have HX := Lib.hid (And.intro hx (hrd.kp kA))
  have hM3 := hM.kp kA
  clear hpc hvc hcq hx hrd hM
  go_upto_region 8 with fail
  clear s0 s1 s2
  generalize hW3 : wr.alloc _ = W3 at *
  have hxb : W3.cell? ⟨wr.heap.size, 0, none⟩ = some (.bool x.neg) ∧ W3.cell? ⟨wr.heap.size, 1, none⟩ = some (.slice x.a x.xs.length x.c) ∧ W3.cell? ⟨wr.heap.size, 2, none⟩ = some (.int .i64 x.e) := by rw [← hW3]; simp
  clear hW3 kA
  have kd := (Kp.refl W3).drew
  have hk3' := hM3.2.1.1
  obtain ⟨hc1, hf1⟩ := hM3.cellF
  have HM3 := Lib.hid hM3
  have HCF := Lib.hid (HFN.out R.length cur.length r x HRW.out.1 HX.out.1 W3.drew (hk3'.trans kd) (HX.out.2.kp kd))
  have HD3 := Lib.hid kd
  have hcl : cur.length + 1 ≤ 9000000 := by omega
  obtain ⟨s0, s1, s2⟩ := id hxb
  clear hM3 hk3' kd
  go_region_law (first
    | (go_simp; (with_reducible refine HCF.out.mono ?_); rintro e v1 ⟨z, rfl, hz, hzp, hzv, j1⟩
       have kZ := (HD3.out.trans j1).alloc (.cells #[.bool z.lo.neg, .slice z.lo.a z.lo.xs.length z.lo.c, .int .i64 z.lo.e, .bool z.hi.neg, .slice z.hi.a z.hi.xs.length z.hi.c, .int .i64 z.hi.e, .bool z.all] 44)
       have hM4 := HM3.out.kp (HD3.out.trans j1)
       obtain ⟨hc1, hf1⟩ := hM4.cellF
       have hM5 := HM3.out.kp kZ
       obtain ⟨hc1, hf1⟩ := hM5.cellF
       have hown := hM5.2.1
       have hzA := hz.kp ((Kp.refl v1).alloc (.cells #[.bool z.lo.neg, .slice z.lo.a z.lo.xs.length z.lo.c, .int .i64 z.lo.e, .bool z.hi.neg, .slice z.hi.a z.hi.xs.length z.hi.c, .int .i64 z.hi.e, .bool z.all] 44))
       have ZP := Lib.hid (And.intro hzp hzv)
       have HM5 := Lib.hid hM5
       clear hz hzp hzv kZ hM5 hM4)
    | (refine step_append_ivg (by rfl) _ _ (by rfl) w u cur (by rfl) hown _ _ (by rfl) z hzA (by simp) hcl ?_; intro a' c' w9 hown9 hgrow hblk
       obtain ⟨hc1, hf1⟩ := HM5.out.cellG hgrow)
    | fail)
  all_goals
    have hst := OutM.step HM5.out hown9 hgrow hblk HM5.out.2.1.noU
    go_wp2_with fail
    go_roundg (gk - 1)
    case measure => have := HPC.out.2.2; omega
    case rel =>
      refine ⟨_, cur ++ [z], by have := HPC.out.2.2; rw [List.length_append, List.length_singleton]; omega, by rw [List.length_append, List.length_singleton]; go_num, hst, ?_, ok_snoc HPC.out.2.1 ZP.out.2⟩
      rw [plR_snoc, HPC.out.1, List.length_append, List.length_singleton, rowF_snoc, ZP.out.1]
def ptP (d : RD) : PI := ⟨d.dy, d.dy, false⟩
def atN (m : List (List RD)) (i j : Nat) : RD := (m.getD i []).getD j rdZero
theorem atN_eq {m : List (List RD)} {i j : Nat} {r : List RD} {x : RD} (hr : m[i]? = some r) (hx : r[j]? = some x) : atN m i j = x := by
  unfold atN
  rw [List.getD_eq_getElem?_getD, List.getD_eq_getElem?_getD, hr]
  show (r[j]?).getD rdZero = x
  rw [hx]; rfl
def ofF (m : List (List RD)) : List (List PI) := if vlN m = true then tabM m.length (colsN m) (fun i j => ptP (atN m i j)) else []
set_option maxHeartbeats 2000000 in
theorem of1_any (i j : Int) (x : RD) (w : World) (hx : x.ok w) :
    Calls Tryz.prog 151 #[.int .i64 i, .int .i64 j, .agg #[.bool x.neg, .slice x.a x.xs.length x.c, .int .i64 x.e]] w (IvOut w (ptP x)) := by
  have k1 := ((Kp.refl w).alloc (.cells #[.bool x.neg, .slice x.a x.xs.length x.c, .int .i64 x.e] 38)).alloc (.cells #[.bool false, .slice none 0 0, .int .i64 0, .bool false, .slice none 0 0, .int .i64 0, .bool false] 44)
  have HX := Lib.hid (hx.kp k1)
  have hV := Var7.new (w.alloc (.cells #[.bool x.neg, .slice x.a x.xs.length x.c, .int .i64 x.e] 38)) 44
  rw [World.size_alloc] at hV
  have hS : ((w.alloc (.cells #[.bool x.neg, .slice x.a x.xs.length x.c, .int .i64 x.e] 38)).alloc (.cells #[.bool false, .slice none 0 0, .int .i64 0, .bool false, .slice none 0 0, .int .i64 0, .bool false] 44)).cell? ⟨w.heap.size, 0, none⟩ = some (.bool x.neg) ∧ ((w.alloc (.cells #[.bool x.neg, .slice x.a x.xs.length x.c, .int .i64 x.e] 38)).alloc (.cells #[.bool false, .slice none 0 0, .int .i64 0, .bool false, .slice none 0 0, .int .i64 0, .bool false] 44)).cell? ⟨w.heap.size, 1, none⟩ = some (.slice x.a x.xs.length x.c) ∧ ((w.alloc (.cells #[.bool x.neg, .slice x.a x.xs.length x.c, .int .i64 x.e] 38)).alloc (.cells #[.bool false, .slice none 0 0, .int .i64 0, .bool false, .slice none 0 0, .int .i64 0, .bool false] 44)).cell? ⟨w.heap.size, 2, none⟩ = some (.int .i64 x.e) := keep3 ((Kp.refl _).alloc _) (by simp)
  clear hx
  go_enter Tryz.func151, Tryz.ntmps151
  go_upto_region 1 with fail
  generalize ((w.alloc _).alloc _) = W at *
  obtain ⟨s0, s1, s2⟩ := hS
  go_wp2_with fail
  go_fit (IPoint_pt x _ HX.out)
  rintro e w1 ⟨rfl, k2⟩
  have hV1 := hV.kp k2
  have HX1 := Lib.hid (HX.out.kp k2)
  have hk1 := k1.trans k2
  clear hV s0 s1 s2 k1 k2
  obtain ⟨⟨q0, q1, q2, q3, q4, q5, q6⟩, f0, f1, f2, f3, f4, f5, f6⟩ := id hV1
  go_wp2_with fail
  generalize hW9 : ((((((w1.setCell _ _).setCell _ _).setCell _ _).setCell _ _).setCell _ _).setCell _ _).setCell _ _ = W9
  obtain ⟨⟨s0, s1, s2, s3, s4, s5, s6⟩, hU⟩ := stored7 (show Box7 w1 _ _ _ _ _ _ _ _ from ⟨q0, q1, q2, q3, q4, q5, q6⟩) (fun _ h => by cases h) (fun _ h => by cases h) (fun _ h => by cases h) (fun _ h => by cases h) (fun _ h => by cases h) (fun _ h => by cases h) (fun _ h => by cases h) _ _ _ _ _ _ _ hW9
  clear hW9 q0 q1 q2 q3 q4 q5 q6 f0 f1 f2 f3 f4 f5 f6
  refine bodyPost_ret (v := .agg #[.bool (ptI x).lo.neg, .slice (ptI x).lo.a (ptI x).lo.xs.length (ptI x).lo.c, .int .i64 (ptI x).lo.e, .bool (ptI x).hi.neg, .slice (ptI x).hi.a (ptI x).hi.xs.length (ptI x).hi.c, .int .i64 (ptI x).hi.e, .bool (ptI x).all]) (by simp [results, Tryz.results151, go_sem, s0, s1, s2, s3, s4, s5, s6]) rfl ?_
  exact ⟨ptI x, rfl, hU.rdI (ptI_rd HX1.out.1), rfl, (ptI_ok HX1.out).2.2, hU.2.2.1 _ hk1 (by omega)⟩
set_option maxHeartbeats 2000000 in
theorem mof_any (a : Option Addr) (m : List (List RD)) (c : Nat) (w : World) (hm : RowN w a m) (hl : m.length ≤ 1100000) :
    Calls Tryz.prog 78 #[.slice a m.length c] w (MatV w (ofF m)) := by
  have H := Lib.hid (recn_any a m c w hm hl)
  have HM := Lib.hid hm
  obtain ⟨D, hD⟩ : ∃ D, D = ofF m := ⟨_, rfl⟩
  have HD := Lib.hid hD
  rw [← hD]
  clear hm hD
  go_enter Tryz.func78, Tryz.ntmps78
  go_wp2_with fail
  go_fit H.out
  rintro e w1 ⟨rfl, k1⟩
  cases hv : vlN m with
  | false =>
    have HE := Lib.hid (show D = [] by rw [HD.out]; unfold ofF; rw [if_neg (by rw [hv]; decide)])
    clear hv
    go_wp2_with fail
    go_ret
    rw [HE.out]
    exact ⟨none, [], 0, rfl, fun i r h => by simp at h, rfl, fun r h => by simp at h, by simp, k1⟩
  | true =>
  have HV := Lib.hid hv
  have HE := Lib.hid (eachN_any a m c 151 #[] (fun i j => ptP (atN m i j)) w1 (HM.out.kp k1) hv ⟨fun _ _ => by kernel_rfl, fun i j r x hi hj w2 k2 hx => by
    have := of1_any (i : Int) (j : Int) x w2 ⟨hx, (vlN_row HV.out hi).2 x (List.mem_of_getElem? hj)⟩
    have e : (fun i j => ptP (atN m i j)) i j = ptP x := by show ptP (atN m i j) = _; rw [atN_eq hi hj]
    rw [e]; exact this⟩)
  have HE2 := Lib.hid (show D = tabM m.length (colsN m) (fun i j => ptP (atN m i j)) by rw [HD.out]; unfold ofF; rw [if_pos hv])
  clear hv
  go_wp2_with fail
  go_fit HE.out
  rintro e w2 ⟨a2, Z, c2, rfl, r2, p2, o2, l2, k2⟩
  go_wp2_with fail
  go_ret
  rw [HE2.out]
  exact ⟨a2, Z, c2, rfl, r2, p2, o2, l2, k1.trans k2⟩
def RowT (w : World) (a : Option Addr) (m : List (List (List RI))) : Prop :=
  ∀ i r, m[i]? = some r → ∃ b o ra rc, a = some ⟨b, o, none⟩ ∧ w.cell? ⟨b, o + i, none⟩ = some (.slice ra r.length rc) ∧ RowM w ra r ∧ r.length ≤ 1100000
theorem RowT.kp {w w' : World} {a : Option Addr} {m : List (List (List RI))} (h : RowT w a m) (k : Kp w w') : RowT w' a m := by
  intro i r hi
  obtain ⟨b, o, ra, rc, h1, h2, h3, h4⟩ := h i r hi
  exact ⟨b, o, ra, rc, h1, k.cell h2, h3.kp k, h4⟩

theorem limbs_one7 {m : Nat} (h0 : 0 < m) (h1 : m < 4294967296) : limbs m = [m] := by
  rw [limbs_pos (by omega), Nat.mod_eq_of_lt h1, Nat.div_eq_of_lt h1, limbs_zero]
theorem intD_oks {n : Int} (h : n.natAbs ≤ 1000) : (intD n).ok := (intD_isP (p := 10) (by decide) (by decide) (by omega)).1
theorem intD_eqs {d : Dy} {n : Int} (hd : d.ok) (hn : n.natAbs ≤ 1000) (h : d.iv = n * 2 ^ 16384) : d = intD n := Dy.iv_inj hd (intD_oks hn) (h.trans (intD_iv n).symm)
theorem Box3.setN {w : World} {g : Nat} {x0 x1 x2 : Value} (h : Box3 w g x0 x1 x2) (hx : ∀ n : Int, x2 ≠ .int .u32 n) (v : Value) : Box3 (w.setCell ⟨g, 2, none⟩ v) g x0 x1 v ∧ Upd g w (w.setCell ⟨g, 2, none⟩ v) := by
  obtain ⟨h0, h1, h2, f0, f1, f2⟩ := h
  have U := (Upd.refl g w).step h2 hx v
  exact ⟨⟨set_at (by decide) h0, set_at (by decide) h1, cell_set_eq h2, (U.1 _).trans f0, (U.1 _).trans f1, (U.1 _).trans f2⟩, U⟩
theorem Box3.setM {w : World} {g : Nat} {x0 x1 x2 : Value} (h : Box3 w g x0 x1 x2) (hx : ∀ n : Int, x1 ≠ .int .u32 n) (v : Value) : Box3 (w.setCell ⟨g, 1, none⟩ v) g x0 v x2 ∧ Upd g w (w.setCell ⟨g, 1, none⟩ v) := by
  obtain ⟨h0, h1, h2, f0, f1, f2⟩ := h
  have U := (Upd.refl g w).step h1 hx v
  exact ⟨⟨set_at (by decide) h0, cell_set_eq h1, set_at (by decide) h2, (U.1 _).trans f0, (U.1 _).trans f1, (U.1 _).trans f2⟩, U⟩
theorem Upd.box3 {g b : Nat} {w W : World} (h : Upd g w W) (hb : b ≠ g) {x0 x1 x2 : Value} (f : Box3 w b x0 x1 x2) : Box3 W b x0 x1 x2 := by
  obtain ⟨h1, _, _, h4, _⟩ := h
  have key (i : Nat) : W.cell? ⟨b, i, none⟩ = w.cell? ⟨b, i, none⟩ := h4 _ hb
  unfold Box3
  simp only [key, h1]
  exact f
def idP (i t : Nat) : PI := if i = t then pnI 1 1 else pnI 0 0
theorem intD_zero : intD 0 = .zero := rfl
theorem intD_le {a b : Int} (h : a ≤ b) : (intD a).iv ≤ (intD b).iv := by
  rw [intD_iv, intD_iv]
  have hp := twoK_pos 16384
  generalize ((2 : Int) ^ 16384) = q at *
  exact Int.mul_le_mul_of_nonneg_right h (by omega)
theorem intD_lt {a b : Int} (h : a < b) : (intD a).iv < (intD b).iv := by
  rw [intD_iv, intD_iv]
  have hp := twoK_pos 16384
  generalize ((2 : Int) ^ 16384) = q at *
  exact Int.mul_lt_mul_of_pos_right h (by omega)
theorem vl_int {w : World} {x y : RD} {a b : Int} (hx : x.ok w) (hy : y.ok w) (dx : x.dy = intD a) (dy : y.dy = intD b) (h : a ≤ b) : RI.vl ⟨x, y, false⟩ = true :=
  vl_mk2 hx.2 hy.2 (by show x.dy.iv ≤ y.dy.iv; rw [dx, dy]; exact intD_le h)
theorem pl_int {x y : RD} {a b : Int} (dx : x.dy = intD a) (dy : y.dy = intD b) : RI.pl ⟨x, y, false⟩ = pnI a b := by unfold RI.pl pnI; rw [dx, dy]
structure RF where
  ca : Option Addr
  cs : List RD
  cc : Nat
  aa : Option Addr
  ms : List (List RD)
  ac : Nat
  ra : Option Addr
  rs : List RI
  rc : Nat
def RF.rd (w : World) (f : RF) : Prop := (RowD w f.ca f.cs ∧ f.cs.length ≤ 1100000) ∧ (RowN w f.aa f.ms ∧ f.ms.length ≤ 1100000) ∧ (RowI w f.ra f.rs ∧ f.rs.length ≤ 1100000)
theorem RF.rd.kp {w w' : World} {f : RF} (h : f.rd w) (k : Kp w w') : f.rd w' := ⟨⟨h.1.1.kp k, h.1.2⟩, ⟨h.2.1.1.kp k, h.2.1.2⟩, ⟨h.2.2.1.kp k, h.2.2.2⟩⟩
def goodZ (x : RI) : Bool := !x.all && (x.vl && (decide (x.lo.iv ≤ 0) && decide (0 ≤ x.hi.iv)))
theorem goodZ_iff {x : RI} : goodZ x = true ↔ x.all = false ∧ x.vl = true ∧ x.lo.iv ≤ 0 ∧ 0 ≤ x.hi.iv := by
  unfold goodZ
  simp only [Bool.and_eq_true, Bool.not_eq_true', decide_eq_true_eq]
def vlF (f : RF) : Bool := decide (1 ≤ f.cs.length ∧ f.cs.length ≤ 8) && (decide (f.ms.length = f.cs.length ∧ f.rs.length = f.cs.length) && (f.cs.all RD.vl && (f.ms.all (fun r => decide (r.length = f.cs.length) && r.all RD.vl) && f.rs.all goodZ)))
theorem vlF_iff {f : RF} : vlF f = true ↔ (1 ≤ f.cs.length ∧ f.cs.length ≤ 8) ∧ (f.ms.length = f.cs.length ∧ f.rs.length = f.cs.length) ∧ (∀ x ∈ f.cs, x.vl = true) ∧ (∀ r ∈ f.ms, r.length = f.cs.length ∧ ∀ x ∈ r, x.vl = true) ∧ ∀ x ∈ f.rs, goodZ x = true := by
  unfold vlF
  simp only [Bool.and_eq_true, decide_eq_true_eq, List.all_eq_true]
theorem vlF_N {f : RF} (h : vlF f = true) : vlN f.ms = true ∧ colsN f.ms = f.cs.length := by
  obtain ⟨h1, h2, h3, h4, h5⟩ := vlF_iff.1 h
  have hpos : 0 < f.ms.length := by omega
  have hc : colsN f.ms = f.cs.length := by
    unfold colsN
    cases hm : f.ms with
    | nil => rw [hm] at hpos; simp at hpos
    | cons r t => exact (h4 r (by rw [hm]; exact .head _)).1
  refine ⟨vlN_iff.2 ⟨by omega, by rw [hc]; exact h1, fun r hr => ?_⟩, hc⟩
  rw [hc]; exact h4 r hr
def ptR : List RD → List RD → Dy → Option Dy
  | [], _, s => some s
  | _ :: _, [], _ => none
  | a :: r, y :: z, s => if (chk (prodD a.dy y.dy)).2 ≠ 0 then none else if (chk (sumD s (chk (prodD a.dy y.dy)).1)).2 ≠ 0 then none else ptR r z (chk (sumD s (chk (prodD a.dy y.dy)).1)).1
theorem drop_at {α : Type} {l : List α} {k : Nat} {x : α} (h : l[k]? = some x) : l.drop k = x :: l.drop (k + 1) := by
  obtain ⟨hk, e⟩ := List.getElem?_eq_some_iff.1 h
  rw [List.drop_eq_getElem_cons hk, e]
theorem ptR_mul {r z : List RD} {k : Nat} {a y : RD} {s : Dy} (ha : r[k]? = some a) (hy : z[k]? = some y) (h : (chk (prodD a.dy y.dy)).2 ≠ 0) : ptR (r.drop k) (z.drop k) s = none := by
  rw [drop_at ha, drop_at hy]; unfold ptR; rw [if_pos h]
theorem ptR_add {r z : List RD} {k : Nat} {a y : RD} {s p : Dy} (ha : r[k]? = some a) (hy : z[k]? = some y) (h : (chk (prodD a.dy y.dy)).2 = 0) (hp : p = (chk (prodD a.dy y.dy)).1) (h2 : (chk (sumD s p)).2 ≠ 0) : ptR (r.drop k) (z.drop k) s = none := by
  subst hp
  rw [drop_at ha, drop_at hy]; unfold ptR; rw [if_neg (by omega), if_pos h2]
theorem ptR_next {r z : List RD} {k : Nat} {a y : RD} {s p q : Dy} (ha : r[k]? = some a) (hy : z[k]? = some y) (h : (chk (prodD a.dy y.dy)).2 = 0) (hp : p = (chk (prodD a.dy y.dy)).1) (h2 : (chk (sumD s p)).2 = 0) (hq : q = (chk (sumD s p)).1) : ptR (r.drop k) (z.drop k) s = ptR (r.drop (k + 1)) (z.drop (k + 1)) q := by
  subst hp; subst hq
  rw [drop_at ha, drop_at hy]; conv => lhs; unfold ptR
  rw [if_neg (by omega), if_neg (by omega)]
def ptM (z : List RD) : List (RD × List RD) → Option (List Dy)
  | [] => some []
  | (c, r) :: m => match ptR r z c.dy with
    | none => none
    | some s => match ptM z m with
      | none => none
      | some l => some (s :: l)
def boxF (f : RF) (p : Nat) : List PI := rowF f.cs.length fun i => pAdd (ptP (f.cs.getD i rdZero)) (dotF p (fun t => ptP (atN f.ms i t)) (rowG f.rs) (f.cs.length - 1)) p
end Go.Proofs.YtbhmhfnfceakoaaGreatDoor
section
namespace Go.Proofs.YtbhmhfnfceakoaaGreatDoor
open Go.ChangeShapes Go.WideShapes Go.RowKit Go.Deep

section
variable {H : Type} {enc : TypeId × Value → H} {w : World} {base : Nat} {spare : Nat → Bool} {held : Bool}
theorem cellsFrm : Tryz.prog.cellsOf 26 = 3 := by kernel_rfl
theorem cellsRowsN : Tryz.prog.cellsOf 23 = 1 := by kernel_rfl
theorem cellsRowsI : Tryz.prog.cellsOf 24 = 1 := by kernel_rfl
theorem cellsRowsD : Tryz.prog.cellsOf 22 = 1 := by kernel_rfl
theorem open_frm {fuel : Nat} {cs : List Value} {x : DataW H × List MemPlace} (h : DataW.trod enc Tryz.prog w base spare held fuel 26 cs = some x) (hb : Rows.uptoBulk x.1 ≤ 1048576) :
    ∃ f : RF, cs = [.slice f.ca f.cs.length f.cc, .slice f.aa f.ms.length f.ac, .slice f.ra f.rs.length f.rc] ∧ f.rd w := by
  obtain ⟨xs, n, _, hx, hlen, hxl, hf⟩ := DataW.trod_struct Tryz.underlying26 h
  replace hlen := hlen.trans cellsFrm
  obtain ⟨c0, c1, c2, rfl⟩ := list3 hlen
  obtain ⟨y0, y1, y2, rfl⟩ := list3 hxl
  have h0 : DataW.trod enc Tryz.prog w base spare held n 22 (([c0, c1, c2].drop 0).take (Tryz.prog.cellsOf 22)) = some y0 := hf 0 _ rfl
  have h1 : DataW.trod enc Tryz.prog w base spare held n 23 (([c0, c1, c2].drop 1).take (Tryz.prog.cellsOf 23)) = some y1 := hf 1 _ rfl
  have h2 : DataW.trod enc Tryz.prog w base spare held n 24 (([c0, c1, c2].drop 2).take (Tryz.prog.cellsOf 24)) = some y2 := hf 2 _ rfl
  rw [cellsRowsD] at h0
  rw [cellsRowsN] at h1
  rw [cellsRowsI] at h2
  have h0 : DataW.trod enc Tryz.prog w base spare held n 22 [c0] = some y0 := h0
  have h1 : DataW.trod enc Tryz.prog w base spare held n 23 [c1] = some y1 := h1
  have h2 : DataW.trod enc Tryz.prog w base spare held n 24 [c2] = some y2 := h2
  have b0 : Rows.uptoBulk y0.1 ≤ Rows.uptoBulk x.1 := by rw [hx]; exact bulk_agg (by simp)
  have b1 : Rows.uptoBulk y1.1 ≤ Rows.uptoBulk x.1 := by rw [hx]; exact bulk_agg (by simp)
  have b2 : Rows.uptoBulk y2.1 ≤ Rows.uptoBulk x.1 := by rw [hx]; exact bulk_agg (by simp)
  obtain ⟨ca, cs, cc, e0, r0, l0⟩ := open_rowD h0 (by omega)
  obtain ⟨aa, ms, ac, e1, r1, l1⟩ := open_rowN h1 (by omega)
  obtain ⟨ra, rs, rc, e2, r2, l2⟩ := open_rowI h2 (by omega)
  simp only [List.cons.injEq, and_true] at e0 e1 e2
  subst e0 e1 e2
  exact ⟨⟨ca, cs, cc, aa, ms, ac, ra, rs, rc⟩, rfl, ⟨r0, by show cs.length ≤ _; omega⟩, ⟨r1, by show ms.length ≤ _; omega⟩, ⟨r2, by show rs.length ≤ _; omega⟩⟩
end
end Go.Proofs.YtbhmhfnfceakoaaGreatDoor
end
