/-
  Walks: matrix.each of a valid matrix of intervals.
-/
import Derived.Deep.AppendLies
import Derived.Deep.RegionLaw
import Derived.Test.YtdidocdpjiiedaaGreatDoorMMulN
namespace Go.Proofs.YtdidocdpjiiedaaGreatDoor
open Go.RowKit

/-- a matrix of these numbers -/
def MatV (w : World) (X : List (List PI)) (e : Ending) (w' : World) : Prop :=
  ∃ (a : Option Addr) (Z : List (List RI)) (c : Nat), e = .returned (.slice a Z.length c) ∧ RowM w' a Z ∧ plM Z = X ∧ okM Z ∧ Z.length ≤ 1100000 ∧ Kp w w'
/-- the function g with the captured values cap answers, for the element in row i, column j of m, an interval of the numbers F i j -/
def FunE (P : Program) (g : FuncId) (cap : Array Value) (w : World) (m : List (List RI)) (F : Nat → Nat → PI) : Prop :=
  Enters P g ∧ ∀ (i j : Nat) (r : List RI) (x : RI), m[i]? = some r → r[j]? = some x → ∀ w1, Kp w w1 → x.rd w1 → Calls P g (#[.int .i64 (i : Int), .int .i64 (j : Int), .agg #[.bool x.lo.neg, .slice x.lo.a x.lo.xs.length x.lo.c, .int .i64 x.lo.e, .bool x.hi.neg, .slice x.hi.a x.hi.xs.length x.hi.c, .int .i64 x.hi.e, .bool x.all]] ++ cap) w1 (IvOut w1 (F i j))
set_option maxRecDepth 100000 in
set_option maxHeartbeats 8000000 in
theorem each_any (a : Option Addr) (m : List (List RI)) (c : Nat) (g : FuncId) (cap : Array Value) (F : Nat → Nat → PI) (w : World) (hm : RowM w a m) (hvm : vlM m = true) (hF : FunE Tryz.prog g cap w m F) :
    Calls Tryz.prog 101 #[.slice a m.length c, .func (.func g) #[] cap] w (MatV w (tabM m.length (colsM m) F)) := by
  have hgo : ∀ args w, (callFunc g args).run Tryz.prog w = .ok (.enter g args) w := hF.1
  have HFN := Lib.hid hF.2
  have HM := Lib.hid hm
  have HVM := Lib.hid hvm
  have hml := (vlM_iff.1 hvm).1
  have hmc := (vlM_iff.1 hvm).2.1
  have hm8 : m.length ≤ 8 := hml.2
  have hmk := make_rows (m.length : Int) m.length rfl (by omega)
  obtain ⟨r0, hr0, hc0⟩ := vlM_row0 hvm
  obtain ⟨ba, oa, _, _, rfl, _⟩ := hm 0 r0 hr0
  have HML := Lib.hid (And.intro hml hmc)
  clear hF hm hvm hml hmc hr0 hc0
  go_enter Tryz.func101, Tryz.ntmps101
  go_wp2_with fail
  have hO := OutH.made w m.length
  generalize hW1 : w.alloc _ = W1 at *
  have HO := Lib.hid hO
  clear hW1 hmk hO
  go_loopg [15] m.length (fun q v wr => ∃ R : List (List RI), R.length + q = m.length ∧ v = .int .i64 (R.length : Int) ∧ OutH w wr w.heap.size m.length R ∧ plM R = tabM R.length (colsM m) F ∧ okM R)
  case atStart => exact ⟨[], by simp, rfl, HO.out, rfl, fun r h => by simp at h⟩
  case round =>
    obtain ⟨R, hRq, rfl, hO, hpl, hok⟩ := hrel
    clear HO
    have HH := Lib.hid (And.intro hpl hok)
    have HOH := Lib.hid hO
    have hkr := hO.2.1
    clear hpl hok hO
    by_cases hlt : R.length < m.length
    · obtain ⟨r, hr⟩ : ∃ r, m[R.length]? = some r := ⟨_, List.getElem?_eq_getElem hlt⟩
      obtain ⟨b2, o2, ra2, rc2, e2, hrc, hrow, hrl⟩ := HM.out R.length r hr
      cases e2
      have hrc1 := hkr.cell hrc
      have HRW := Lib.hid (And.intro hr (And.intro hrow (vlM_row HVM.out hr)))
      have HMO := Lib.hid (HOH.out.open hlt)
      have Hlt := Lib.hid (And.intro hlt hRq)
      have hr8 : r.length ≤ 8 := by have := (vlM_row HVM.out hr).1; have := HML.out.2; omega
      clear hr hrc hrow hrl hRq
      have hk1 : (0 : Int) ≤ (R.length : Int) := by omega
      have hk2 : (R.length : Int) < (m.length : Int) := by omega
      go_wp2_with fail
      clear HOH hrc1
      obtain ⟨gk1, hgk1⟩ : ∃ x : Nat, x = gk := ⟨_, rfl⟩
      subst hgk1
      obtain ⟨wr1, hwr1⟩ : ∃ x : World, x = wr := ⟨_, rfl⟩
      subst hwr1
      go_loopg [22] r.length (fun q v wr => ∃ (u : Value) (cur : List RI), cur.length + q = r.length ∧ v = .int .i64 (cur.length : Int) ∧ OutM w wr w.heap.size m.length R u cur ∧ plR cur = rowF cur.length (F R.length) ∧ ∀ x ∈ cur, x.vl = true)
      case atStart => exact ⟨_, [], by simp, rfl, HMO.out, rfl, fun x h => by simp at h⟩
      case round =>
        obtain ⟨u, cur, hcq, rfl, hM, hpc, hvc⟩ := hrel
        clear HMO
        by_cases hlt2 : cur.length < r.length
        · obtain ⟨x, hx⟩ : ∃ x, r[cur.length]? = some x := ⟨_, List.getElem?_eq_getElem hlt2⟩
          obtain ⟨b3, o3, e3, hrd, s0, s1, s2, s3, s4, s5, s6⟩ := (HRW.out.2.1.kp hM.2.1.1) cur.length x hx
          subst e3
          have HPC := Lib.hid (And.intro hpc (And.intro hvc (And.intro hcq hlt2)))
          have hj1 : (0 : Int) ≤ (cur.length : Int) := by omega
          have hj2 : (cur.length : Int) < (r.length : Int) := by omega
          have kA := (Kp.refl wr).alloc (.cells #[.bool x.lo.neg, .slice x.lo.a x.lo.xs.length x.lo.c, .int .i64 x.lo.e, .bool x.hi.neg, .slice x.hi.a x.hi.xs.length x.hi.c, .int .i64 x.hi.e, .bool x.all] 43)
          have HX := Lib.hid (And.intro hx (hrd.kp kA))
          have hM3 := hM.kp kA
          clear hpc hvc hcq hx hrd hM
          go_upto_region 8 with fail
          clear s0 s1 s2 s3 s4 s5 s6
          generalize hW3 : wr.alloc _ = W3 at *
          have hxb : W3.cell? ⟨wr.heap.size, 0, none⟩ = some (.bool x.lo.neg) ∧ W3.cell? ⟨wr.heap.size, 1, none⟩ = some (.slice x.lo.a x.lo.xs.length x.lo.c) ∧ W3.cell? ⟨wr.heap.size, 2, none⟩ = some (.int .i64 x.lo.e) ∧ W3.cell? ⟨wr.heap.size, 3, none⟩ = some (.bool x.hi.neg) ∧ W3.cell? ⟨wr.heap.size, 4, none⟩ = some (.slice x.hi.a x.hi.xs.length x.hi.c) ∧ W3.cell? ⟨wr.heap.size, 5, none⟩ = some (.int .i64 x.hi.e) ∧ W3.cell? ⟨wr.heap.size, 6, none⟩ = some (.bool x.all) := by rw [← hW3]; simp
          clear hW3 kA
          have kd := (Kp.refl W3).drew
          have hk3' := hM3.2.1.1
          obtain ⟨hc1, hf1⟩ := hM3.cellF
          have HM3 := Lib.hid hM3
          have HCF := Lib.hid (HFN.out R.length cur.length r x HRW.out.1 HX.out.1 W3.drew (hk3'.trans kd) (HX.out.2.kp kd))
          have HD3 := Lib.hid kd
          have hcl : cur.length + 1 ≤ 9000000 := by omega
          obtain ⟨s0, s1, s2, s3, s4, s5, s6⟩ := id hxb
          clear hM3 hk3' kd
          go_region_law (first
            | (go_simp; (with_reducible refine HCF.out.mono ?_); rintro e v1 ⟨z, rfl, hz, hzp, hzv, j1⟩
               have kZ := (HD3.out.trans j1).alloc (.cells #[.bool z.lo.neg, .slice z.lo.a z.lo.xs.length z.lo.c, .int .i64 z.lo.e, .bool z.hi.neg, .slice z.hi.a z.hi.xs.length z.hi.c, .int .i64 z.hi.e, .bool z.all] 43)
               have hM4 := HM3.out.kp (HD3.out.trans j1)
               obtain ⟨hc1, hf1⟩ := hM4.cellF
               have hM5 := HM3.out.kp kZ
               obtain ⟨hc1, hf1⟩ := hM5.cellF
               have hown := hM5.2.1
               have hzA := hz.kp ((Kp.refl v1).alloc (.cells #[.bool z.lo.neg, .slice z.lo.a z.lo.xs.length z.lo.c, .int .i64 z.lo.e, .bool z.hi.neg, .slice z.hi.a z.hi.xs.length z.hi.c, .int .i64 z.hi.e, .bool z.all] 43))
               have ZP := Lib.hid (And.intro hzp hzv)
               have HM5 := Lib.hid hM5
               clear hz hzp hzv kZ hM5 hM4)
            | (refine step_append_ivg (by rfl) _ _ (by rfl) w u cur (by rfl) hown _ _ (by rfl) z hzA (by simp) hcl ?_; intro a' c' w9 hown9 hgrow hblk
               obtain ⟨hc1, hf1⟩ := HM5.out.cellG hgrow)
            | fail)
          all_goals
            have hst := OutM.step HM5.out hown9 hgrow hblk HM5.out.2.1.noU
            go_wp2_with fail
            go_roundg (gk - 1)
            case measure => have := HPC.out.2.2; omega
            case rel =>
              refine ⟨_, cur ++ [z], by have := HPC.out.2.2; rw [List.length_append, List.length_singleton]; omega, by rw [List.length_append, List.length_singleton]; go_num, hst, ?_, ok_snoc HPC.out.2.1 ZP.out.2⟩
              rw [plR_snoc, HPC.out.1, List.length_append, List.length_singleton, rowF_snoc, ZP.out.1]
        · have hce : cur.length = r.length := by omega
          have hcl : cur.length ≤ 1100000 := by omega
          have hcc := Lib.hid (hM.close hcl)
          have HPC := Lib.hid (And.intro hpc (And.intro hvc hce))
          clear hpc hvc hcq hM hce hcl
          go_wp2_with fail
          go_roundg (gk1 - 1)
          case measure => have := Hlt.out; omega
          case rel =>
            refine ⟨R ++ [cur], by have := Hlt.out; rw [List.length_append, List.length_singleton]; omega, by rw [List.length_append, List.length_singleton]; go_num, hcc.out, ?_, okM_snoc HH.out.2 HPC.out.2.1⟩
            rw [plM_snoc, HH.out.1, List.length_append, List.length_singleton, tabM_snoc, HPC.out.1, HPC.out.2.2, HRW.out.2.2.1]
    · have hRe : R.length = m.length := by omega
      have HRe := Lib.hid hRe
      clear hRe hRq
      go_wp2_with fail
      go_ret
      refine ⟨some ⟨w.heap.size, 0, none⟩, R, m.length, by rw [HRe.out]; rfl, HOH.out.rowM, ?_, HH.out.2, by have := HML.out; have := HRe.out; omega, hkr⟩
      rw [HH.out.1, HRe.out]
end Go.Proofs.YtdidocdpjiiedaaGreatDoor
