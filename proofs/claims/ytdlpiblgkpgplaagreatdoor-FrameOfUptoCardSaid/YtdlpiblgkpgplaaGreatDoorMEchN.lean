/-
  Walks: matrix.each of a valid matrix of numbers; matrix.Of.
-/
import Derived.Deep.AppendLies
import Derived.Deep.RegionLaw
import Derived.Test.YtdlpiblgkpgplaaGreatDoorMR5A
import Derived.Test.YtdlpiblgkpgplaaGreatDoorMRectN
namespace Go.Proofs.YtdlpiblgkpgplaaGreatDoor
open Go.RowKit

theorem vlN_row {m : List (List RD)} (h : vlN m = true) {i : Nat} {r : List RD} (hi : m[i]? = some r) : r.length = colsN m ∧ ∀ x ∈ r, x.vl = true :=
  (vlN_iff.1 h).2.2 r (List.mem_of_getElem? hi)
theorem vlN_row0 {m : List (List RD)} (h : vlN m = true) : ∃ r, m[0]? = some r ∧ r.length = colsN m := by
  have h0 : 0 < m.length := (vlN_iff.1 h).1.1
  exact ⟨_, List.getElem?_eq_getElem h0, (vlN_row h (List.getElem?_eq_getElem h0)).1⟩
/-- the function g with the captured values cap answers, for the element in row i, column j of m, an interval of the numbers F i j -/
def FunN (P : Program) (g : FuncId) (cap : Array Value) (w : World) (m : List (List RD)) (F : Nat → Nat → PI) : Prop :=
  Enters P g ∧ ∀ (i j : Nat) (r : List RD) (x : RD), m[i]? = some r → r[j]? = some x → ∀ w1, Kp w w1 → x.rd w1 → Calls P g (#[.int .i64 (i : Int), .int .i64 (j : Int), .agg #[.bool x.neg, .slice x.a x.xs.length x.c, .int .i64 x.e]] ++ cap) w1 (IvOut w1 (F i j))
set_option maxRecDepth 100000 in
set_option maxHeartbeats 8000000 in
theorem eachN_any (a : Option Addr) (m : List (List RD)) (c : Nat) (g : FuncId) (cap : Array Value) (F : Nat → Nat → PI) (w : World) (hm : RowN w a m) (hvm : vlN m = true) (hF : FunN Tryz.prog g cap w m F) :
    Calls Tryz.prog 77 #[.slice a m.length c, .func (.func g) #[] cap] w (MatV w (tabM m.length (colsN m) F)) := by
  have hgo : ∀ args w, (callFunc g args).run Tryz.prog w = .ok (.enter g args) w := hF.1
  have HFN := Lib.hid hF.2
  have HM := Lib.hid hm
  have HVM := Lib.hid hvm
  have hml := (vlN_iff.1 hvm).1
  have hmc := (vlN_iff.1 hvm).2.1
  have hm8 : m.length ≤ 8 := hml.2
  have hmk := make_rows (m.length : Int) m.length rfl (by omega)
  obtain ⟨r0, hr0, hc0⟩ := vlN_row0 hvm
  obtain ⟨ba, oa, _, _, rfl, _⟩ := hm 0 r0 hr0
  have HML := Lib.hid (And.intro hml hmc)
  clear hF hm hvm hml hmc hr0 hc0
  go_enter Tryz.func77, Tryz.ntmps77
  go_wp2_with fail
  have hO := OutH.made w m.length
  generalize hW1 : w.alloc _ = W1 at *
  have HO := Lib.hid hO
  clear hW1 hmk hO
  go_loopg [15] m.length (fun q v wr => ∃ R : List (List RI), R.length + q = m.length ∧ v = .int .i64 (R.length : Int) ∧ OutH w wr w.heap.size m.length R ∧ plM R = tabM R.length (colsN m) F ∧ okM R)
  case atStart => exact ⟨[], by simp, rfl, HO.out, rfl, fun r h => by simp at h⟩
  case round =>
    obtain ⟨R, hRq, rfl, hO, hpl, hok⟩ := hrel
    clear HO
    have HH := Lib.hid (And.intro hpl hok)
    have HOH := Lib.hid hO
    have hkr := hO.2.1
    clear hpl hok hO
    by_cases hlt : R.length < m.length
    · obtain ⟨r, hr⟩ : ∃ r, m[R.length]? = some r := ⟨_, List.getElem?_eq_getElem hlt⟩
      obtain ⟨b2, o2, ra2, rc2, e2, hrc, hrow, hrl⟩ := HM.out R.length r hr
      cases e2
      have hrc1 := hkr.cell hrc
      have HRW := Lib.hid (And.intro hr (And.intro hrow (vlN_row HVM.out hr)))
      have HMO := Lib.hid (HOH.out.open hlt)
      have Hlt := Lib.hid (And.intro hlt hRq)
      have hr8 : r.length ≤ 8 := by have := (vlN_row HVM.out hr).1; have := HML.out.2; omega
      clear hr hrc hrow hrl hRq
      have hk1 : (0 : Int) ≤ (R.length : Int) := by omega
      have hk2 : (R.length : Int) < (m.length : Int) := by omega
      go_wp2_with fail
      clear HOH hrc1
      obtain ⟨gk1, hgk1⟩ : ∃ x : Nat, x = gk := ⟨_, rfl⟩
      subst hgk1
      obtain ⟨wr1, hwr1⟩ : ∃ x : World, x = wr := ⟨_, rfl⟩
      subst hwr1
      go_loopg [22] r.length (fun q v wr => ∃ (u : Value) (cur : List RI), cur.length + q = r.length ∧ v = .int .i64 (cur.length : Int) ∧ OutM w wr w.heap.size m.length R u cur ∧ plR cur = rowF cur.length (F R.length) ∧ ∀ x ∈ cur, x.vl = true)
      case atStart => exact ⟨_, [], by simp, rfl, HMO.out, rfl, fun x h => by simp at h⟩
      case round =>
        obtain ⟨u, cur, hcq, rfl, hM, hpc, hvc⟩ := hrel
        clear HMO
        by_cases hlt2 : cur.length < r.length
        · obtain ⟨x, hx⟩ : ∃ x, r[cur.length]? = some x := ⟨_, List.getElem?_eq_getElem hlt2⟩
          obtain ⟨b3, o3, e3, hrd, s0, s1, s2⟩ := (HRW.out.2.1.kp hM.2.1.1) cur.length x hx
          subst e3
          have HPC := Lib.hid (And.intro hpc (And.intro hvc (And.intro hcq hlt2)))
          have hj1 : (0 : Int) ≤ (cur.length : Int) := by omega
          have hj2 : (cur.length : Int) < (r.length : Int) := by omega
          have kA := (Kp.refl wr).alloc (.cells #[.bool x.neg, .slice x.a x.xs.length x.c, .int .i64 x.e] 33)
          have HX := Lib.hid (And.intro hx (hrd.kp kA))
          have hM3 := hM.kp kA
          clear hpc hvc hcq hx hrd hM
          go_upto_region 8 with fail
          clear s0 s1 s2
          generalize hW3 : wr.alloc _ = W3 at *
          have hxb : W3.cell? ⟨wr.heap.size, 0, none⟩ = some (.bool x.neg) ∧ W3.cell? ⟨wr.heap.size, 1, none⟩ = some (.slice x.a x.xs.length x.c) ∧ W3.cell? ⟨wr.heap.size, 2, none⟩ = some (.int .i64 x.e) := by rw [← hW3]; simp
          clear hW3 kA
          have kd := (Kp.refl W3).drew
          have hk3' := hM3.2.1.1
          obtain ⟨hc1, hf1⟩ := hM3.cellF
          have HM3 := Lib.hid hM3
          have HCF := Lib.hid (HFN.out R.length cur.length r x HRW.out.1 HX.out.1 W3.drew (hk3'.trans kd) (HX.out.2.kp kd))
          have HD3 := Lib.hid kd
          have hcl : cur.length + 1 ≤ 9000000 := by omega
          obtain ⟨s0, s1, s2⟩ := id hxb
          clear hM3 hk3' kd
          go_region_law (first
            | (go_simp; (with_reducible refine HCF.out.mono ?_); rintro e v1 ⟨z, rfl, hz, hzp, hzv, j1⟩
               have kZ := (HD3.out.trans j1).alloc (.cells #[.bool z.lo.neg, .slice z.lo.a z.lo.xs.length z.lo.c, .int .i64 z.lo.e, .bool z.hi.neg, .slice z.hi.a z.hi.xs.length z.hi.c, .int .i64 z.hi.e, .bool z.all] 35)
               have hM4 := HM3.out.kp (HD3.out.trans j1)
               obtain ⟨hc1, hf1⟩ := hM4.cellF
               have hM5 := HM3.out.kp kZ
               obtain ⟨hc1, hf1⟩ := hM5.cellF
               have hown := hM5.2.1
               have hzA := hz.kp ((Kp.refl v1).alloc (.cells #[.bool z.lo.neg, .slice z.lo.a z.lo.xs.length z.lo.c, .int .i64 z.lo.e, .bool z.hi.neg, .slice z.hi.a z.hi.xs.length z.hi.c, .int .i64 z.hi.e, .bool z.all] 35))
               have ZP := Lib.hid (And.intro hzp hzv)
               have HM5 := Lib.hid hM5
               clear hz hzp hzv kZ hM5 hM4)
            | (refine step_append_ivg (by rfl) _ _ (by rfl) w u cur (by rfl) hown _ _ (by rfl) z hzA (by simp) hcl ?_; intro a' c' w9 hown9 hgrow hblk
               obtain ⟨hc1, hf1⟩ := HM5.out.cellG hgrow)
            | fail)
          all_goals
            have hst := OutM.step HM5.out hown9 hgrow hblk HM5.out.2.1.noU
            go_wp2_with fail
            go_roundg (gk - 1)
            case measure => have := HPC.out.2.2; omega
            case rel =>
              refine ⟨_, cur ++ [z], by have := HPC.out.2.2; rw [List.length_append, List.length_singleton]; omega, by rw [List.length_append, List.length_singleton]; go_num, hst, ?_, ok_snoc HPC.out.2.1 ZP.out.2⟩
              rw [plR_snoc, HPC.out.1, List.length_append, List.length_singleton, rowF_snoc, ZP.out.1]
        · have hce : cur.length = r.length := by omega
          have hcl : cur.length ≤ 1100000 := by omega
          have hcc := Lib.hid (hM.close hcl)
          have HPC := Lib.hid (And.intro hpc (And.intro hvc hce))
          clear hpc hvc hcq hM hce hcl
          go_wp2_with fail
          go_roundg (gk1 - 1)
          case measure => have := Hlt.out; omega
          case rel =>
            refine ⟨R ++ [cur], by have := Hlt.out; rw [List.length_append, List.length_singleton]; omega, by rw [List.length_append, List.length_singleton]; go_num, hcc.out, ?_, okM_snoc HH.out.2 HPC.out.2.1⟩
            rw [plM_snoc, HH.out.1, List.length_append, List.length_singleton, tabM_snoc, HPC.out.1, HPC.out.2.2, HRW.out.2.2.1]
    · have hRe : R.length = m.length := by omega
      have HRe := Lib.hid hRe
      clear hRe hRq
      go_wp2_with fail
      go_ret
      refine ⟨some ⟨w.heap.size, 0, none⟩, R, m.length, by rw [HRe.out]; rfl, HOH.out.rowM, ?_, HH.out.2, by have := HML.out; have := HRe.out; omega, hkr⟩
      rw [HH.out.1, HRe.out]
/-- the interval of a number -/
def ptP (d : RD) : PI := ⟨d.dy, d.dy, false⟩
/-- the number in row i, column j -/
def atN (m : List (List RD)) (i j : Nat) : RD := (m.getD i []).getD j rdZero
theorem atN_eq {m : List (List RD)} {i j : Nat} {r : List RD} {x : RD} (hr : m[i]? = some r) (hx : r[j]? = some x) : atN m i j = x := by
  unfold atN
  rw [List.getD_eq_getElem?_getD, List.getD_eq_getElem?_getD, hr]
  show (r[j]?).getD rdZero = x
  rw [hx]; rfl
/-- the matrix of the points -/
def ofF (m : List (List RD)) : List (List PI) := if vlN m = true then tabM m.length (colsN m) (fun i j => ptP (atN m i j)) else []
set_option maxHeartbeats 2000000 in
theorem of1_any (i j : Int) (x : RD) (w : World) (hx : x.ok w) :
    Calls Tryz.prog 78 #[.int .i64 i, .int .i64 j, .agg #[.bool x.neg, .slice x.a x.xs.length x.c, .int .i64 x.e]] w (IvOut w (ptP x)) := by
  have k1 := ((Kp.refl w).alloc (.cells #[.bool x.neg, .slice x.a x.xs.length x.c, .int .i64 x.e] 33)).alloc (.cells #[.bool false, .slice none 0 0, .int .i64 0, .bool false, .slice none 0 0, .int .i64 0, .bool false] 35)
  have HX := Lib.hid (hx.kp k1)
  have hV := Var7.new (w.alloc (.cells #[.bool x.neg, .slice x.a x.xs.length x.c, .int .i64 x.e] 33)) 35
  rw [World.size_alloc] at hV
  have hS : ((w.alloc (.cells #[.bool x.neg, .slice x.a x.xs.length x.c, .int .i64 x.e] 33)).alloc (.cells #[.bool false, .slice none 0 0, .int .i64 0, .bool false, .slice none 0 0, .int .i64 0, .bool false] 35)).cell? ⟨w.heap.size, 0, none⟩ = some (.bool x.neg) ∧ ((w.alloc (.cells #[.bool x.neg, .slice x.a x.xs.length x.c, .int .i64 x.e] 33)).alloc (.cells #[.bool false, .slice none 0 0, .int .i64 0, .bool false, .slice none 0 0, .int .i64 0, .bool false] 35)).cell? ⟨w.heap.size, 1, none⟩ = some (.slice x.a x.xs.length x.c) ∧ ((w.alloc (.cells #[.bool x.neg, .slice x.a x.xs.length x.c, .int .i64 x.e] 33)).alloc (.cells #[.bool false, .slice none 0 0, .int .i64 0, .bool false, .slice none 0 0, .int .i64 0, .bool false] 35)).cell? ⟨w.heap.size, 2, none⟩ = some (.int .i64 x.e) := keep3 ((Kp.refl _).alloc _) (by simp)
  clear hx
  go_enter Tryz.func78, Tryz.ntmps78
  go_upto_region 1 with fail
  generalize ((w.alloc _).alloc _) = W at *
  obtain ⟨s0, s1, s2⟩ := hS
  go_wp2_with fail
  go_fit (IPoint_pt x _ HX.out)
  rintro e w1 ⟨rfl, k2⟩
  have hV1 := hV.kp k2
  have HX1 := Lib.hid (HX.out.kp k2)
  have hk1 := k1.trans k2
  clear hV s0 s1 s2 k1 k2
  obtain ⟨⟨q0, q1, q2, q3, q4, q5, q6⟩, f0, f1, f2, f3, f4, f5, f6⟩ := id hV1
  go_wp2_with fail
  generalize hW9 : ((((((w1.setCell _ _).setCell _ _).setCell _ _).setCell _ _).setCell _ _).setCell _ _).setCell _ _ = W9
  obtain ⟨⟨s0, s1, s2, s3, s4, s5, s6⟩, hU⟩ := stored7 (show Box7 w1 _ _ _ _ _ _ _ _ from ⟨q0, q1, q2, q3, q4, q5, q6⟩) (fun _ h => by cases h) (fun _ h => by cases h) (fun _ h => by cases h) (fun _ h => by cases h) (fun _ h => by cases h) (fun _ h => by cases h) (fun _ h => by cases h) _ _ _ _ _ _ _ hW9
  clear hW9 q0 q1 q2 q3 q4 q5 q6 f0 f1 f2 f3 f4 f5 f6
  refine bodyPost_ret (v := .agg #[.bool (ptI x).lo.neg, .slice (ptI x).lo.a (ptI x).lo.xs.length (ptI x).lo.c, .int .i64 (ptI x).lo.e, .bool (ptI x).hi.neg, .slice (ptI x).hi.a (ptI x).hi.xs.length (ptI x).hi.c, .int .i64 (ptI x).hi.e, .bool (ptI x).all]) (by simp [results, Tryz.results78, go_sem, s0, s1, s2, s3, s4, s5, s6]) rfl ?_
  exact ⟨ptI x, rfl, hU.rdI (ptI_rd HX1.out.1), rfl, (ptI_ok HX1.out).2.2, hU.2.2.1 _ hk1 (by omega)⟩
set_option maxHeartbeats 2000000 in
/-- matrix.Of -/
theorem mof_any (a : Option Addr) (m : List (List RD)) (c : Nat) (w : World) (hm : RowN w a m) (hl : m.length ≤ 1100000) :
    Calls Tryz.prog 36 #[.slice a m.length c] w (MatV w (ofF m)) := by
  have H := Lib.hid (recn_any a m c w hm hl)
  have HM := Lib.hid hm
  obtain ⟨D, hD⟩ : ∃ D, D = ofF m := ⟨_, rfl⟩
  have HD := Lib.hid hD
  rw [← hD]
  clear hm hD
  go_enter Tryz.func36, Tryz.ntmps36
  go_wp2_with fail
  go_fit H.out
  rintro e w1 ⟨rfl, k1⟩
  cases hv : vlN m with
  | false =>
    have HE := Lib.hid (show D = [] by rw [HD.out]; unfold ofF; rw [if_neg (by rw [hv]; decide)])
    clear hv
    go_wp2_with fail
    go_ret
    rw [HE.out]
    exact ⟨none, [], 0, rfl, fun i r h => by simp at h, rfl, fun r h => by simp at h, by simp, k1⟩
  | true =>
    have HV := Lib.hid hv
    have HE := Lib.hid (eachN_any a m c 78 #[] (fun i j => ptP (atN m i j)) w1 (HM.out.kp k1) hv ⟨fun _ _ => by kernel_rfl, fun i j r x hi hj w2 k2 hx => by
      have := of1_any (i : Int) (j : Int) x w2 ⟨hx, (vlN_row HV.out hi).2 x (List.mem_of_getElem? hj)⟩
      have e : (fun i j => ptP (atN m i j)) i j = ptP x := by show ptP (atN m i j) = _; rw [atN_eq hi hj]
      rw [e]; exact this⟩)
    have HE2 := Lib.hid (show D = tabM m.length (colsN m) (fun i j => ptP (atN m i j)) by rw [HD.out]; unfold ofF; rw [if_pos hv])
    clear hv
    go_wp2_with fail
    go_fit HE.out
    rintro e w2 ⟨a2, Z, c2, rfl, r2, p2, o2, l2, k2⟩
    go_wp2_with fail
    go_ret
    rw [HE2.out]
    exact ⟨a2, Z, c2, rfl, r2, p2, o2, l2, k1.trans k2⟩
end Go.Proofs.YtdlpiblgkpgplaaGreatDoor
