/-
  Walks: matrix.Transpose.
-/
import Derived.Deep.AppendLies
import Derived.Deep.RegionLaw
import Derived.Test.YtdidocdpjiiedaaGreatDoorMIdnL
import Derived.Test.YtdidocdpjiiedaaGreatDoorMMulN
import Derived.Test.YtdidocdpjiiedaaGreatDoorMIvH
namespace Go.Proofs.YtdidocdpjiiedaaGreatDoor
open Go.RowKit

theorem zr_dy {y : RD} (h : y.zr = true) : y.dy = .zero := by
  unfold RD.zr at h
  simp only [Bool.and_eq_true, Bool.not_eq_true', decide_eq_true_eq] at h
  obtain ⟨h1, h2, h3⟩ := h
  unfold RD.dy
  rw [h1, h3, List.eq_nil_of_length_eq_zero h2]; rfl
theorem keep8 {w w' : World} (k : Kp w w') {p0 p1 p2 p3 p4 p5 p6 p7 : Addr} {u0 u1 u2 u3 u4 u5 u6 u7 : Value} (h : w.cell? p0 = some u0 ∧ w.cell? p1 = some u1 ∧ w.cell? p2 = some u2 ∧ w.cell? p3 = some u3 ∧ w.cell? p4 = some u4 ∧ w.cell? p5 = some u5 ∧ w.cell? p6 = some u6 ∧ w.cell? p7 = some u7) : w'.cell? p0 = some u0 ∧ w'.cell? p1 = some u1 ∧ w'.cell? p2 = some u2 ∧ w'.cell? p3 = some u3 ∧ w'.cell? p4 = some u4 ∧ w'.cell? p5 = some u5 ∧ w'.cell? p6 = some u6 ∧ w'.cell? p7 = some u7 := by
  obtain ⟨h0, h1, h2, h3, h4, h5, h6, h7⟩ := h
  exact ⟨k.cell h0, k.cell h1, k.cell h2, k.cell h3, k.cell h4, k.cell h5, k.cell h6, k.cell h7⟩
theorem grow8 {w w' : World} {vb : Option Nat} (k : w.grownBy w' vb) {b2 b3 q0 q1 q2 q3 q4 q5 q6 q7 : Nat} (n2 : some b2 ≠ vb) (n3 : some b3 ≠ vb) {u0 u1 u2 u3 u4 u5 u6 u7 : Value} (h : w.cell? ⟨b2, q0, none⟩ = some u0 ∧ w.cell? ⟨b3, q1, none⟩ = some u1 ∧ w.cell? ⟨b3, q2, none⟩ = some u2 ∧ w.cell? ⟨b3, q3, none⟩ = some u3 ∧ w.cell? ⟨b3, q4, none⟩ = some u4 ∧ w.cell? ⟨b3, q5, none⟩ = some u5 ∧ w.cell? ⟨b3, q6, none⟩ = some u6 ∧ w.cell? ⟨b3, q7, none⟩ = some u7) : w'.cell? ⟨b2, q0, none⟩ = some u0 ∧ w'.cell? ⟨b3, q1, none⟩ = some u1 ∧ w'.cell? ⟨b3, q2, none⟩ = some u2 ∧ w'.cell? ⟨b3, q3, none⟩ = some u3 ∧ w'.cell? ⟨b3, q4, none⟩ = some u4 ∧ w'.cell? ⟨b3, q5, none⟩ = some u5 ∧ w'.cell? ⟨b3, q6, none⟩ = some u6 ∧ w'.cell? ⟨b3, q7, none⟩ = some u7 := by
  obtain ⟨h0, h1, h2, h3, h4, h5, h6, h7⟩ := h
  exact ⟨k.cell h0 n2, k.cell h1 n3, k.cell h2 n3, k.cell h3 n3, k.cell h4 n3, k.cell h5 n3, k.cell h6 n3, k.cell h7 n3⟩
theorem set8 {w : World} {g i : Nat} {v : Value} {b2 b3 q0 q1 q2 q3 q4 q5 q6 q7 : Nat} (n2 : b2 ≠ g) (n3 : b3 ≠ g) {u0 u1 u2 u3 u4 u5 u6 u7 : Value} (h : w.cell? ⟨b2, q0, none⟩ = some u0 ∧ w.cell? ⟨b3, q1, none⟩ = some u1 ∧ w.cell? ⟨b3, q2, none⟩ = some u2 ∧ w.cell? ⟨b3, q3, none⟩ = some u3 ∧ w.cell? ⟨b3, q4, none⟩ = some u4 ∧ w.cell? ⟨b3, q5, none⟩ = some u5 ∧ w.cell? ⟨b3, q6, none⟩ = some u6 ∧ w.cell? ⟨b3, q7, none⟩ = some u7) : (w.setCell ⟨g, i, none⟩ v).cell? ⟨b2, q0, none⟩ = some u0 ∧ (w.setCell ⟨g, i, none⟩ v).cell? ⟨b3, q1, none⟩ = some u1 ∧ (w.setCell ⟨g, i, none⟩ v).cell? ⟨b3, q2, none⟩ = some u2 ∧ (w.setCell ⟨g, i, none⟩ v).cell? ⟨b3, q3, none⟩ = some u3 ∧ (w.setCell ⟨g, i, none⟩ v).cell? ⟨b3, q4, none⟩ = some u4 ∧ (w.setCell ⟨g, i, none⟩ v).cell? ⟨b3, q5, none⟩ = some u5 ∧ (w.setCell ⟨g, i, none⟩ v).cell? ⟨b3, q6, none⟩ = some u6 ∧ (w.setCell ⟨g, i, none⟩ v).cell? ⟨b3, q7, none⟩ = some u7 := by
  have ne (c j : Nat) (n : c ≠ g) : (⟨g, i, none⟩ : Addr) ≠ ⟨c, j, none⟩ := fun e => n (by injection e with e1; exact e1.symm)
  simp only [cell_set_ne (ne _ _ n2), cell_set_ne (ne _ _ n3)]
  exact h
theorem OwnN.lo {wb w : World} {v : Value} {zs : List RI} (h : OwnN wb w v zs) {b : Nat} (hb : b < wb.heap.size) : some b ≠ v.ownBlock := fun e => by
  have := (h.2.1.lt b e.symm).1
  omega
theorem hullR_self {x : RI} (h : x.vl = true) : (hullR x x).pl = x.pl ∧ (hullR x x).vl = true ∧ ∀ w, x.rd w → (hullR x x).rd w := by
  unfold hullR
  cases ha : x.all with
  | false =>
    have : hullI x x = x := by
      obtain ⟨l, u, b⟩ := x
      cases ha
      simp [hullI, lessR, moreR]
    rw [if_neg (by decide), this]
    exact ⟨rfl, h, fun _ h => h⟩
  | true =>
    rw [if_pos (by decide)]
    refine ⟨?_, rfl, fun w _ => wholeR_rd w⟩
    unfold RI.vl at h
    rw [ha, if_pos rfl, Bool.and_eq_true] at h
    unfold RI.pl
    rw [zr_dy h.1, zr_dy h.2, ha]; rfl
/-- the transposed matrix -/
def trF (m : List (List RI)) : List (List PI) := if vlM m = true then tabM (colsM m) m.length (fun j i => atP m i j) else []
set_option maxRecDepth 100000 in
set_option maxHeartbeats 8000000 in
theorem mtrans_any (a : Option Addr) (m : List (List RI)) (c : Nat) (w : World) (hm : RowM w a m) (hl : m.length ≤ 1100000) :
    Calls Tryz.prog 42 #[.slice a m.length c] w (MatV w (trF m)) := by
  have HM := Lib.hid hm
  obtain ⟨D, hD⟩ : ∃ D, D = trF m := ⟨_, rfl⟩
  have HD := Lib.hid hD
  rw [← hD]
  clear hm hD
  go_enter Tryz.func42, Tryz.ntmps42
  go_wp2_with fail
  go_fit (mvalid_any a m c _ HM.out hl)
  rintro e w1 ⟨rfl, hk⟩
  cases hvm : vlM m with
  | false =>
    have HE := Lib.hid (show D = [] by rw [HD.out]; unfold trF; rw [hvm]; rfl)
    clear hvm
    go_wp2_with fail
    rw [HE.out]
    refine bodyPost_ret (v := .slice none 0 0) (by simp [results, Tryz.results42, go_sem]) rfl ?_
    exact ⟨none, [], 0, rfl, rowM_nil _ _, rfl, fun r h => by simp at h, by simp, hk⟩
  | true =>
    have HVM := Lib.hid hvm
    clear hvm
    obtain ⟨r0, hr0, hc0⟩ := vlM_row0 HVM.out
    have hml := (vlM_iff.1 HVM.out).1
    have hmc := (vlM_iff.1 HVM.out).2.1
    obtain ⟨ba, oa, ra, rc, rfl, hrow, _⟩ := HM.out 0 r0 hr0
    rw [Nat.add_zero] at hrow
    have hi1 : (0 : Int) < (m.length : Int) := by omega
    have hbr := hk.cell hrow
    have hlr : r0.length ≤ 8 := by omega
    have HC0 := Lib.hid hc0
    have HML := Lib.hid (And.intro hml hmc)
    have HDm := Lib.hid (show D = tabM (colsM m) m.length (fun j i => atP m i j) by rw [HD.out]; unfold trF; rw [if_pos HVM.out])
    obtain ⟨F, hF⟩ : ∃ F : Nat → Nat → PI, F = fun j i => atP m i j := ⟨_, rfl⟩
    have HF := Lib.hid hF
    have hmk := make_rows (r0.length : Int) r0.length rfl (by omega)
    clear hr0 hrow hc0 hml hmc hF
    go_wp2_with fail
    have hO := OutH.made w1 r0.length
    have hk1 := (Kp.refl w1).alloc (.cells (madeCells #[.slice none 0 0] r0.length) 40)
    generalize hW1 : w1.alloc _ = W1 at *
    have HK := Lib.hid hk
    have HO := Lib.hid hO
    clear hW1 hmk hbr hk hk1 hO
    go_loopg [16] r0.length (fun q v wr => ∃ R : List (List RI), R.length + q = r0.length ∧ v = .int .i64 (R.length : Int) ∧ OutH w1 wr w1.heap.size r0.length R ∧ plM R = tabM R.length m.length F ∧ okM R)
    case atStart => exact ⟨[], by simp, rfl, HO.out, rfl, fun r h => by simp at h⟩
    case round =>
      obtain ⟨R, hRq, rfl, hO, hpl, hok⟩ := hrel
      clear HO
      have HH := Lib.hid (And.intro hpl hok)
      have HOH := Lib.hid hO
      have hkr := hO.2.1
      clear hpl hok hO
      by_cases hlt : R.length < r0.length
      · have HMO := Lib.hid (HOH.out.open hlt)
        have Hlt := Lib.hid (And.intro hlt hRq)
        clear hRq
        have hj1 : (0 : Int) ≤ (R.length : Int) := by omega
        have hj2 : (R.length : Int) < (r0.length : Int) := by omega
        go_wp2_with fail
        clear HOH
        obtain ⟨gk1, hgk1⟩ : ∃ x : Nat, x = gk := ⟨_, rfl⟩
        subst hgk1
        obtain ⟨wr1, hwr1⟩ : ∃ x : World, x = wr := ⟨_, rfl⟩
        subst hwr1
        go_loopg [21] m.length (fun q v wr => ∃ (u : Value) (cur : List RI), cur.length + q = m.length ∧ v = .int .i64 (cur.length : Int) ∧ OutM w1 wr w1.heap.size r0.length R u cur ∧ plR cur = rowF cur.length (F R.length) ∧ ∀ x ∈ cur, x.vl = true)
        case atStart => exact ⟨_, [], by simp, rfl, HMO.out, rfl, fun x h => by simp at h⟩
        case round =>
          obtain ⟨u, cur, hcq, rfl, hM, hpc, hvc⟩ := hrel
          clear HMO
          by_cases hlt2 : cur.length < m.length
          · have HPC := Lib.hid (And.intro hpc (And.intro hvc (And.intro hcq hlt2)))
            have hs8 : m.length ≤ 8 := HML.out.1.2
            obtain ⟨r, x, hr, hx, hxv, hat⟩ := vlM_get HVM.out hlt2 (show R.length < colsM m by have := HC0.out; omega)
            have hrl := (vlM_row HVM.out hr).1
            obtain ⟨b2, o2, ra2, rc2, e2, hrc, hrow, _⟩ := HM.out cur.length r hr
            cases e2
            obtain ⟨b3, o3, rfl, hrd, hS⟩ := hrow R.length x hx
            have hrr : r.length = r0.length := by have := HC0.out; omega
            rw [hrr] at hrc
            have HS := Lib.hid hxv
            have HAT := Lib.hid (show x.pl = F R.length cur.length by rw [HF.out]; show x.pl = atP m _ _; unfold atP; rw [hat])
            clear hpc hvc hcq hr hx hrow hat hrl hrr hxv
            have hi3 : (0 : Int) ≤ (cur.length : Int) := by omega
            have hi4 : (cur.length : Int) < (m.length : Int) := by omega
            go_upto_region 10 with fail
            have kd := (Kp.refl wr).drew
            have kk := HK.out.trans hM.2.1.1
            have hM3 := hM.kp kd
            have hcell := hM3.cellF
            obtain ⟨hc1, hf1⟩ := id hcell
            have hrc1 := (kk.trans kd).cell hrc
            have hS1 := And.intro hrc1 (keep7 (kk.trans kd) hS)
            have hsz : w.heap.size ≤ w1.heap.size := HK.out.size
            have nb2 := hM3.2.1.lo (Nat.lt_of_lt_of_le (World.block_lt_of_cell? w _ hrc) hsz)
            have nb3 := hM3.2.1.lo (Nat.lt_of_lt_of_le (World.block_lt_of_cell? w _ hS.1) hsz)
            have ng2 : ba ≠ w1.heap.size := Nat.ne_of_lt (Nat.lt_of_lt_of_le (World.block_lt_of_cell? w _ hrc) hsz)
            have ng3 : b3 ≠ w1.heap.size := Nat.ne_of_lt (Nat.lt_of_lt_of_le (World.block_lt_of_cell? w _ hS.1) hsz)
            have NN := Lib.hid (And.intro nb2 (And.intro nb3 (And.intro ng2 ng3)))
            clear hsz nb2 nb3 ng2 ng3 hrc1
            have HM3 := Lib.hid hM3
            have HRD := Lib.hid (hrd.kp (kk.trans kd))
            have HW := Lib.hid (hullR_self HS.out)
            have HRH := Lib.hid (HW.out.2.2 _ HRD.out)
            have hcl : cur.length + 1 ≤ 9000000 := by omega
            clear hM hM3 kd hcell kk hrc hS hrd
            go_region_law (first
              | (go_simp; go_at_call 99; (with_reducible refine (IHull_any x x _ HRD.out HRD.out HS.out HS.out).mono ?_); rintro e v1 ⟨rfl, j1⟩
                 have kZ := j1.alloc (.cells #[.bool (hullR x x).lo.neg, .slice (hullR x x).lo.a (hullR x x).lo.xs.length (hullR x x).lo.c, .int .i64 (hullR x x).lo.e, .bool (hullR x x).hi.neg, .slice (hullR x x).hi.a (hullR x x).hi.xs.length (hullR x x).hi.c, .int .i64 (hullR x x).hi.e, .bool (hullR x x).all] 43)
                 have hM4 := HM3.out.kp j1
                 obtain ⟨hc1, hf1⟩ := hM4.cellF
                 have hM5 := HM3.out.kp kZ
                 obtain ⟨hc1, hf1⟩ := hM5.cellF
                 have hown := hM5.2.1
                 have hzA := HRH.out.kp kZ
                 have HM5 := Lib.hid hM5
                 clear kZ hM5 hM4)
              | (refine step_append_ivg (by rfl) _ _ (by rfl) w1 u cur (by rfl) hown _ _ (by rfl) (hullR x x) hzA (by simp) hcl ?_; intro a' c' w9 hown9 hgrow hblk
                 obtain ⟨hc1, hf1⟩ := HM5.out.cellG hgrow)
              | fail)
            all_goals
              have hst := OutM.step HM5.out hown9 hgrow hblk HM5.out.2.1.noU
              go_wp2_with fail
              go_roundg (gk - 1)
              case measure => have := HPC.out.2.2; omega
              case rel =>
                refine ⟨_, cur ++ [hullR x x], by have := HPC.out.2.2; rw [List.length_append, List.length_singleton]; omega, by rw [List.length_append, List.length_singleton]; go_num, hst, ?_, ok_snoc HPC.out.2.1 HW.out.2.1⟩
                rw [plR_snoc, HPC.out.1, List.length_append, List.length_singleton, rowF_snoc, HW.out.1, HAT.out]
          · have hce : cur.length = m.length := by omega
            have hcl : cur.length ≤ 1100000 := by omega
            have hcc := Lib.hid (hM.close hcl)
            have HPC := Lib.hid (And.intro hpc (And.intro hvc hce))
            clear hpc hvc hcq hM hce hcl
            go_wp2_with fail
            go_roundg (gk1 - 1)
            case measure => have := Hlt.out; omega
            case rel =>
              refine ⟨R ++ [cur], by have := Hlt.out; rw [List.length_append, List.length_singleton]; omega, by rw [List.length_append, List.length_singleton]; go_num, hcc.out, ?_, okM_snoc HH.out.2 HPC.out.2.1⟩
              rw [plM_snoc, HH.out.1, List.length_append, List.length_singleton, tabM_snoc, HPC.out.1, HPC.out.2.2]
      · have hRe : R.length = r0.length := by omega
        have HRe := Lib.hid hRe
        clear hRe hRq
        go_wp2_with fail
        rw [HDm.out]
        refine bodyPost_ret (v := .slice (some ⟨w1.heap.size, 0, none⟩) r0.length r0.length) (by simp [results, Tryz.results42, go_sem]) rfl ?_
        refine ⟨_, R, r0.length, by rw [HRe.out], HOH.out.rowM, ?_, HH.out.2, by have := HRe.out; omega, HK.out.trans hkr⟩
        rw [HH.out.1, HRe.out, HF.out, HC0.out]
end Go.Proofs.YtdidocdpjiiedaaGreatDoor
