/-
  Walks: matrix.Scale.
  Walks: the seventh reference's Scale.
-/
import Derived.Deep.DeepFit
import Derived.Test.YtdidocdpjiiedaaGreatDoorMEchM
import Derived.Test.YtdidocdpjiiedaaGreatDoorMDotM
import Derived.Deep.RegionHeld3
import Derived.Deep.LoopGhost
import Derived.Test.YtdidocdpjiiedaaGreatDoorMNrmP
import Derived.Test.YtdidocdpjiiedaaGreatDoorMMulN
import Derived.Test.YtdidocdpjiiedaaGreatDoorMR7D
import Derived.Test.YtdidocdpjiiedaaGreatDoorMR7V
import Derived.Test.YtdidocdpjiiedaaGreatDoorMR5B
section
namespace Go.Proofs.YtdidocdpjiiedaaGreatDoor
open Go.RowKit

/-- the multiple of a matrix, or nothing -/
def scaleC (m : List (List RI)) (x : RI) (p : Int) : List (List PI) :=
  if vlM m = false then [] else if x.vl = false then [] else if preB p = false then [] else tabM m.length (colsM m) (fun i j => pMul x.pl (atP m i j) p.toNat)
theorem matV_nil {w w' : World} {e : Ending} (h : e = .returned (.slice none 0 0)) (k : Kp w w') : MatV w [] e w' := ⟨none, [], 0, h, fun i r h => by simp at h, rfl, fun r h => by simp at h, by simp, k⟩
set_option maxRecDepth 100000 in
set_option maxHeartbeats 8000000 in
theorem sc1_any (x y : RI) (i j q bx bp : Nat) (w : World) (hx : x.rd w) (vx : x.vl = true) (hy : y.rd w) (vy : y.vl = true) (hS : w.cell? ⟨bx, 0, none⟩ = some (.bool x.lo.neg) ∧ w.cell? ⟨bx, 1, none⟩ = some (.slice x.lo.a x.lo.xs.length x.lo.c) ∧ w.cell? ⟨bx, 2, none⟩ = some (.int .i64 x.lo.e) ∧ w.cell? ⟨bx, 3, none⟩ = some (.bool x.hi.neg) ∧ w.cell? ⟨bx, 4, none⟩ = some (.slice x.hi.a x.hi.xs.length x.hi.c) ∧ w.cell? ⟨bx, 5, none⟩ = some (.int .i64 x.hi.e) ∧ w.cell? ⟨bx, 6, none⟩ = some (.bool x.all)) (hp : w.cell? ⟨bp, 0, none⟩ = some (.int .i64 (q : Int))) (h0 : 8 ≤ q) (h1 : q ≤ 512) (hT : Tab w) :
    Calls Tryz.prog 104 #[.int .i64 (i : Int), .int .i64 (j : Int), .agg #[.bool y.lo.neg, .slice y.lo.a y.lo.xs.length y.lo.c, .int .i64 y.lo.e, .bool y.hi.neg, .slice y.hi.a y.hi.xs.length y.hi.c, .int .i64 y.hi.e, .bool y.all], .pointer (some ⟨bx, 0, none⟩), .pointer (some ⟨bp, 0, none⟩)] w (IvOut w (pMul x.pl y.pl q)) := by
  have k2 := Lib.hid (((Kp.refl w).alloc (.cells #[.bool y.lo.neg, .slice y.lo.a y.lo.xs.length y.lo.c, .int .i64 y.lo.e, .bool y.hi.neg, .slice y.hi.a y.hi.xs.length y.hi.c, .int .i64 y.hi.e, .bool y.all] 43)).alloc (.cells #[.bool false, .slice none 0 0, .int .i64 0, .bool false, .slice none 0 0, .int .i64 0, .bool false] 43))
  have HX := Lib.hid (And.intro (hx.kp k2.out) (And.intro (hy.kp k2.out) (hT.kp k2.out)))
  have HV := Lib.hid (And.intro vx vy)
  have hS2 := keep7 k2.out hS
  have hp2 := k2.out.cell hp
  clear hx vx hy vy hT hS hp
  go_enter Tryz.func104, Tryz.ntmps104
  go_upto_region 1 with fail
  generalize hW : (w.alloc _).alloc _ = W at *
  obtain ⟨t0, t1, t2, t3, t4, t5, t6⟩ : W.cell? ⟨w.heap.size, 0, none⟩ = some (.bool y.lo.neg) ∧ W.cell? ⟨w.heap.size, 1, none⟩ = some (.slice y.lo.a y.lo.xs.length y.lo.c) ∧ W.cell? ⟨w.heap.size, 2, none⟩ = some (.int .i64 y.lo.e) ∧ W.cell? ⟨w.heap.size, 3, none⟩ = some (.bool y.hi.neg) ∧ W.cell? ⟨w.heap.size, 4, none⟩ = some (.slice y.hi.a y.hi.xs.length y.hi.c) ∧ W.cell? ⟨w.heap.size, 5, none⟩ = some (.int .i64 y.hi.e) ∧ W.cell? ⟨w.heap.size, 6, none⟩ = some (.bool y.all) := by rw [← hW]; simp
  have hV : Var7 W (w.heap.size + 1) := by rw [← hW]; exact Var7.new1 _ _ _
  clear hW
  obtain ⟨s0, s1, s2, s3, s4, s5, s6⟩ := hS2
  go_wp2_with fail
  go_fit (IMul_any x y q _ HX.out.1 HX.out.2.1 HV.out.1 HV.out.2 h0 h1 HX.out.2.2)
  rintro e w1 ⟨z, rfl, hz, hzp, hzv, j1⟩
  have HZ := Lib.hid (And.intro hz (And.intro hzp hzv))
  have kE := k2.out.trans j1
  obtain ⟨⟨q0, q1, q2, q3, q4, q5, q6⟩, f0, f1, f2, f3, f4, f5, f6⟩ := hV.kp j1
  clear hz hzp hzv s0 s1 s2 s3 s4 s5 s6 t0 t1 t2 t3 t4 t5 t6 hp2 hV
  go_wp2_with fail
  generalize hW9 : ((((((w1.setCell _ _).setCell _ _).setCell _ _).setCell _ _).setCell _ _).setCell _ _).setCell _ _ = W9
  obtain ⟨⟨s0, s1, s2, s3, s4, s5, s6⟩, hU⟩ := stored7 (show Box7 w1 _ _ _ _ _ _ _ _ from ⟨q0, q1, q2, q3, q4, q5, q6⟩) (fun _ h => by cases h) (fun _ h => by cases h) (fun _ h => by cases h) (fun _ h => by cases h) (fun _ h => by cases h) (fun _ h => by cases h) (fun _ h => by cases h) _ _ _ _ _ _ _ hW9
  clear hW9 q0 q1 q2 q3 q4 q5 q6 f0 f1 f2 f3 f4 f5 f6
  refine bodyPost_ret (v := .agg #[.bool z.lo.neg, .slice z.lo.a z.lo.xs.length z.lo.c, .int .i64 z.lo.e, .bool z.hi.neg, .slice z.hi.a z.hi.xs.length z.hi.c, .int .i64 z.hi.e, .bool z.all]) (by simp [results, Tryz.results104, go_sem, s0, s1, s2, s3, s4, s5, s6]) rfl ?_
  exact ⟨z, rfl, hU.rdI HZ.out.1, HZ.out.2.1, HZ.out.2.2, hU.2.2.1 _ kE (by omega)⟩
set_option maxRecDepth 100000 in
set_option maxHeartbeats 8000000 in
theorem mscale_any (a : Option Addr) (m : List (List RI)) (x : RI) (c : Nat) (p : Int) (w : World) (hm : RowM w a m) (hx : x.rd w) (hl : m.length ≤ 1100000) (hT : Tab w) :
    Calls Tryz.prog 49 #[.slice a m.length c, .agg #[.bool x.lo.neg, .slice x.lo.a x.lo.xs.length x.lo.c, .int .i64 x.lo.e, .bool x.hi.neg, .slice x.hi.a x.hi.xs.length x.hi.c, .int .i64 x.hi.e, .bool x.all], .int .i64 p] w (MatV w (scaleC m x p)) := by
  have k2 := Lib.hid (((Kp.refl w).alloc (.cells #[.bool x.lo.neg, .slice x.lo.a x.lo.xs.length x.lo.c, .int .i64 x.lo.e, .bool x.hi.neg, .slice x.hi.a x.hi.xs.length x.hi.c, .int .i64 x.hi.e, .bool x.all] 43)).alloc (.cells #[.int .i64 p] 3))
  have HM := Lib.hid hm
  have HX := Lib.hid (hx.kp k2.out)
  have HT := Lib.hid hT
  obtain ⟨D, hD⟩ : ∃ D, D = scaleC m x p := ⟨_, rfl⟩
  have HD := Lib.hid hD
  rw [← hD]
  clear hm hx hT hD
  go_enter Tryz.func49, Tryz.ntmps49
  go_wp2_with fail
  generalize hW : (w.alloc _).alloc _ = W at *
  have hS : W.cell? ⟨w.heap.size, 0, none⟩ = some (.bool x.lo.neg) ∧ W.cell? ⟨w.heap.size, 1, none⟩ = some (.slice x.lo.a x.lo.xs.length x.lo.c) ∧ W.cell? ⟨w.heap.size, 2, none⟩ = some (.int .i64 x.lo.e) ∧ W.cell? ⟨w.heap.size, 3, none⟩ = some (.bool x.hi.neg) ∧ W.cell? ⟨w.heap.size, 4, none⟩ = some (.slice x.hi.a x.hi.xs.length x.hi.c) ∧ W.cell? ⟨w.heap.size, 5, none⟩ = some (.int .i64 x.hi.e) ∧ W.cell? ⟨w.heap.size, 6, none⟩ = some (.bool x.all) := by rw [← hW]; simp
  have hp : W.cell? ⟨w.heap.size + 1, 0, none⟩ = some (.int .i64 p) := by rw [← hW]; simp
  clear hW
  go_fit (mvalid_any a m c _ (HM.out.kp k2.out) hl)
  rintro e w1 ⟨rfl, j1⟩
  have K1 := Lib.hid j1
  have hS1 := keep7 j1 hS
  have hp1 := j1.cell hp
  clear j1 hS hp
  cases hvm : vlM m with
  | false =>
    have HE := Lib.hid (show D = [] by rw [HD.out]; unfold scaleC; rw [if_pos hvm])
    clear hvm
    go_wp2_with fail
    go_ret
    exact HE.out ▸ matV_nil rfl (k2.out.trans K1.out)
  | true =>
    have HVM := Lib.hid hvm
    clear hvm
    obtain ⟨s0, s1, s2, s3, s4, s5, s6⟩ := id hS1
    go_wp2_with fail
    go_fit (IValid_raw x _ (HX.out.kp K1.out))
    rintro e w2 ⟨rfl, j2⟩
    have K2 := Lib.hid (K1.out.trans j2)
    replace hS1 := keep7 j2 hS1
    replace hp1 := j2.cell hp1
    clear j2 s0 s1 s2 s3 s4 s5 s6
    cases hvx : x.vl with
    | false =>
      have HE := Lib.hid (show D = [] by rw [HD.out]; unfold scaleC; rw [HVM.out, hvx]; rfl)
      clear hvx
      go_wp2_with fail
      go_ret
      exact HE.out ▸ matV_nil rfl (k2.out.trans K2.out)
    | true =>
      have HVX := Lib.hid hvx
      clear hvx
      go_wp2_with fail
      go_fit (mprecise_any p _)
      rintro e w3 ⟨rfl, rfl⟩
      cases hpr : preB p with
      | false =>
        have HE := Lib.hid (show D = [] by rw [HD.out]; unfold scaleC; rw [HVM.out, HVX.out, hpr]; rfl)
        clear hpr
        go_wp2_with fail
        go_ret
        exact HE.out ▸ matV_nil rfl (k2.out.trans K2.out)
      | true =>
        have HP := Lib.hid hpr
        clear hpr
        obtain ⟨q, hq⟩ : ∃ q : Nat, q = p.toNat := ⟨_, rfl⟩
        have hpq : p = (q : Int) := by have := preB_iff.1 HP.out; omega
        have hq0 : 8 ≤ q := by have := preB_iff.1 HP.out; omega
        have hq1 : q ≤ 512 := by have := preB_iff.1 HP.out; omega
        have HE := Lib.hid (show D = tabM m.length (colsM m) (fun i j => pMul x.pl (atP m i j) q) by rw [HD.out]; unfold scaleC; rw [HVM.out, HVX.out, HP.out, if_neg (by decide), if_neg (by decide), if_neg (by decide), hq])
        rw [hpq] at hp1
        rw [hpq]
        have HS1 := Lib.hid (And.intro hS1 hp1)
        clear hpq hq hS1 hp1
        go_wp2_with fail
        go_fit (each_any a m c 104 #[.pointer (some ⟨w.heap.size, 0, none⟩), .pointer (some ⟨w.heap.size + 1, 0, none⟩)] (fun i j => pMul x.pl (atP m i j) q) w2 (HM.out.kp (k2.out.trans K2.out)) HVM.out
          ⟨fun _ _ => by kernel_rfl, fun i j r y hr hy w4 k4 hyr => by
            have := sc1_any x y i j q w.heap.size (w.heap.size + 1) w4 ((HX.out.kp K2.out).kp k4) HVX.out hyr ((vlM_row HVM.out hr).2 y (List.mem_of_getElem? hy)) (keep7 k4 HS1.out.1) (k4.cell HS1.out.2) hq0 hq1 (HT.out.kp ((k2.out.trans K2.out).trans k4))
            rw [← atP_eq hr hy] at this
            exact this⟩)
        rintro e w5 ⟨a1, Z, c1, rfl, r1, p1, o1, l1, j5⟩
        have H5 := Lib.hid (And.intro r1 (And.intro p1 (And.intro o1 l1)))
        have K5 := Lib.hid ((k2.out.trans K2.out).trans j5)
        clear r1 p1 o1 l1 j5
        go_wp2_with fail
        go_ret
        exact ⟨a1, Z, c1, rfl, H5.out.1, H5.out.2.1.trans HE.out.symm, H5.out.2.2.1, H5.out.2.2.2, K5.out⟩
end Go.Proofs.YtdidocdpjiiedaaGreatDoor
end

section
namespace Go.Proofs.YtdidocdpjiiedaaGreatDoor
open Go.RowKit

theorem keep177 {w w' : World} (k : Kp w w') {p p0 p1 p2 p3 p4 p5 p6 q0 q1 q2 q3 q4 q5 q6 : Addr} {v v0 v1 v2 v3 v4 v5 v6 u0 u1 u2 u3 u4 u5 u6 : Value}
    (h : w.cell? p = some v ∧ (w.cell? p0 = some v0 ∧ w.cell? p1 = some v1 ∧ w.cell? p2 = some v2 ∧ w.cell? p3 = some v3 ∧ w.cell? p4 = some v4 ∧ w.cell? p5 = some v5 ∧ w.cell? p6 = some v6) ∧ w.cell? q0 = some u0 ∧ w.cell? q1 = some u1 ∧ w.cell? q2 = some u2 ∧ w.cell? q3 = some u3 ∧ w.cell? q4 = some u4 ∧ w.cell? q5 = some u5 ∧ w.cell? q6 = some u6) :
    w'.cell? p = some v ∧ (w'.cell? p0 = some v0 ∧ w'.cell? p1 = some v1 ∧ w'.cell? p2 = some v2 ∧ w'.cell? p3 = some v3 ∧ w'.cell? p4 = some v4 ∧ w'.cell? p5 = some v5 ∧ w'.cell? p6 = some v6) ∧ w'.cell? q0 = some u0 ∧ w'.cell? q1 = some u1 ∧ w'.cell? q2 = some u2 ∧ w'.cell? q3 = some u3 ∧ w'.cell? q4 = some u4 ∧ w'.cell? q5 = some u5 ∧ w'.cell? q6 = some u6 := ⟨k.cell h.1, keep77 k h.2⟩
theorem OwnN.base2 {wb w : World} {v : Value} {zs : List RI} (h : OwnN wb w v zs) : Kp wb w := h.1
set_option maxRecDepth 100000 in
set_option maxHeartbeats 8000000 in
theorem r7scale_any (a : Option Addr) (m : List (List RI)) (x : RI) (c : Nat) (p : Int) (w : World) (hm : RowM w a m) (hx : x.rd w) (hl : m.length ≤ 1100000) :
    Calls Tryz.prog 50 #[.slice a m.length c, .agg #[.bool x.lo.neg, .slice x.lo.a x.lo.xs.length x.lo.c, .int .i64 x.lo.e, .bool x.hi.neg, .slice x.hi.a x.hi.xs.length x.hi.c, .int .i64 x.hi.e, .bool x.all], .int .i64 p] w (MatV w (scaleC m x p)) := by
  have k2 := Lib.hid ((Kp.refl w).alloc (.cells #[.bool x.lo.neg, .slice x.lo.a x.lo.xs.length x.lo.c, .int .i64 x.lo.e, .bool x.hi.neg, .slice x.hi.a x.hi.xs.length x.hi.c, .int .i64 x.hi.e, .bool x.all] 43))
  have HM := Lib.hid hm
  have HX := Lib.hid (hx.kp k2.out)
  obtain ⟨D, hD⟩ : ∃ D, D = scaleC m x p := ⟨_, rfl⟩
  have HD := Lib.hid hD
  rw [← hD]
  clear hm hx hD
  go_enter Tryz.func50, Tryz.ntmps50
  go_wp2_with fail
  generalize hW : w.alloc _ = W at *
  have hS : W.cell? ⟨w.heap.size, 0, none⟩ = some (.bool x.lo.neg) ∧ W.cell? ⟨w.heap.size, 1, none⟩ = some (.slice x.lo.a x.lo.xs.length x.lo.c) ∧ W.cell? ⟨w.heap.size, 2, none⟩ = some (.int .i64 x.lo.e) ∧ W.cell? ⟨w.heap.size, 3, none⟩ = some (.bool x.hi.neg) ∧ W.cell? ⟨w.heap.size, 4, none⟩ = some (.slice x.hi.a x.hi.xs.length x.hi.c) ∧ W.cell? ⟨w.heap.size, 5, none⟩ = some (.int .i64 x.hi.e) ∧ W.cell? ⟨w.heap.size, 6, none⟩ = some (.bool x.all) := by rw [← hW]; simp
  clear hW
  go_fit (r7valid_any a m c _ (HM.out.kp k2.out) hl)
  rintro e w1 ⟨rfl, j1⟩
  have K1 := Lib.hid j1
  have hS1 := keep7 j1 hS
  clear j1 hS
  cases hvm : vlM m with
  | false =>
    have HE := Lib.hid (show D = [] by rw [HD.out]; unfold scaleC; rw [if_pos hvm])
    clear hvm
    go_wp2_with fail
    go_ret
    exact HE.out ▸ matV_nil rfl (k2.out.trans K1.out)
  | true =>
    have HVM := Lib.hid hvm
    clear hvm
    obtain ⟨s0, s1, s2, s3, s4, s5, s6⟩ := id hS1
    go_wp2_with fail
    go_fit (r5Valid_raw x _ (HX.out.kp K1.out))
    rintro e w2 ⟨rfl, j2⟩
    have K2 := Lib.hid (K1.out.trans j2)
    replace hS1 := keep7 j2 hS1
    clear j2 s0 s1 s2 s3 s4 s5 s6
    cases hvx : x.vl with
    | false =>
      have HE := Lib.hid (show D = [] by rw [HD.out]; unfold scaleC; rw [HVM.out, hvx]; rfl)
      clear hvx
      go_wp2_with fail
      go_ret
      exact HE.out ▸ matV_nil rfl (k2.out.trans K2.out)
    | true =>
      have HVX := Lib.hid hvx
      clear hvx
      go_wp2_with fail
      go_fit (r3prec_any p _)
      rintro e w3 ⟨rfl, rfl⟩
      cases hpr : preB p with
      | false =>
        have HE := Lib.hid (show D = [] by rw [HD.out]; unfold scaleC; rw [HVM.out, HVX.out, hpr]; rfl)
        clear hpr
        go_wp2_with fail
        go_ret
        exact HE.out ▸ matV_nil rfl (k2.out.trans K2.out)
      | true =>
        have HP := Lib.hid hpr
        clear hpr
        obtain ⟨q, hq⟩ : ∃ q : Nat, q = p.toNat := ⟨_, rfl⟩
        have hpq : p = (q : Int) := by have := preB_iff.1 HP.out; omega
        have hq0 : 8 ≤ q := by have := preB_iff.1 HP.out; omega
        have hq1 : q ≤ 512 := by have := preB_iff.1 HP.out; omega
        obtain ⟨F, hF⟩ : ∃ F : Nat → Nat → PI, F = fun i j => pMul x.pl (atP m i j) q := ⟨_, rfl⟩
        have HDm := Lib.hid (show D = tabM m.length (colsM m) F by rw [HD.out]; unfold scaleC; rw [HVM.out, HVX.out, HP.out, if_neg (by decide), if_neg (by decide), if_neg (by decide), hF, hq])
        have HF := Lib.hid hF
        rw [hpq]
        have HS1 := Lib.hid hS1
        have HK3 := Lib.hid (k2.out.trans K2.out)
        have HX3 := Lib.hid (HX.out.kp K2.out)
        obtain ⟨r0, hr0, hc0⟩ := vlM_row0 HVM.out
        have hml := (vlM_iff.1 HVM.out).1
        have hmc := (vlM_iff.1 HVM.out).2.1
        obtain ⟨ba, oa, _, _, rfl, _⟩ := HM.out 0 r0 hr0
        have HML := Lib.hid (And.intro hml hmc)
        have hlm : m.length ≤ 8 := by omega
        clear hpq hq hS1 hF hr0 hc0 hml hmc
        go_wp2_with fail
        go_loopg [7, 8] m.length (fun z v x wr => ∃ (R : List (List RI)) (us : List Value), R.length + z = m.length ∧ x = .int .i64 (R.length : Int) ∧ OwnM w2 wr v us R ∧ plM R = tabM R.length (colsM m) F ∧ okM R)
        case atStart => exact ⟨[], [], by simp, rfl, OwnM.nil (Kp.refl _), rfl, fun r h => by simp at h⟩
        case round =>
          obtain ⟨R, us, hRq, rfl, hO, hpl, hok⟩ := hrel
          have HH := Lib.hid (And.intro hpl hok)
          have HO := Lib.hid hO
          have hkr := hO.1
          clear hpl hok hO
          by_cases hlt : R.length < m.length
          · obtain ⟨r, hr⟩ : ∃ r, m[R.length]? = some r := ⟨_, List.getElem?_eq_getElem hlt⟩
            obtain ⟨b2, o2, ra2, rc, e2, hrc, hrow, hrl⟩ := HM.out R.length r hr
            cases e2
            have HRW := Lib.hid (And.intro hr (And.intro (HK3.out.cell hrc) (And.intro (hrow.kp HK3.out) (vlM_row HVM.out hr))))
            have Hlt := Lib.hid (And.intro hlt hRq)
            have hr8 : r.length ≤ 8 := by have := (vlM_row HVM.out hr).1; have := HML.out; omega
            clear hr hrc hrow hrl hRq
            have hk1 : (0 : Int) ≤ (R.length : Int) := by omega
            have hk2 : (R.length : Int) < (m.length : Int) := by omega
            go_wp2_with fail
            obtain ⟨gk1, hgk1⟩ : ∃ x : Nat, x = gk := ⟨_, rfl⟩
            subst hgk1
            obtain ⟨wi, hwi⟩ : ∃ x : World, x = wr := ⟨_, rfl⟩
            subst hwi
            have HKI := Lib.hid hkr
            clear hkr
            go_loopg [9, 10] r.length (fun z u x wr => ∃ cur : List RI, cur.length + z = r.length ∧ x = .int .i64 (cur.length : Int) ∧ OwnN wi wr u cur ∧ plR cur = rowF cur.length (F R.length) ∧ ∀ x ∈ cur, x.vl = true)
            case atStart => exact ⟨[], by simp, rfl, OwnN.nil (Kp.refl _), rfl, fun x h => by simp at h⟩
            case round =>
              obtain ⟨cur, hcq, rfl, hown0, hpc, hvc⟩ := hrel
              have hki := HKI.out.trans hown0.1
              have hrcr := hki.cell HRW.out.2.1
              by_cases hlt2 : cur.length < r.length
              · obtain ⟨y, hy⟩ : ∃ x, r[cur.length]? = some x := ⟨_, List.getElem?_eq_getElem hlt2⟩
                obtain ⟨b3, o3, e3, hyr, hyS⟩ := HRW.out.2.2.1 cur.length y hy
                subst e3
                have HPC := Lib.hid (And.intro hpc (And.intro hvc (And.intro hcq hlt2)))
                have hj1 : (0 : Int) ≤ (cur.length : Int) := by omega
                have hj2 : (cur.length : Int) < (r.length : Int) := by omega
                have hcl : cur.length + 1 ≤ 9000000 := by omega
                have kd := (Kp.refl wr).drew
                have kid := hki.trans kd
                have HS := Lib.hid (And.intro HRW.out.2.1 (And.intro HS1.out hyS))
                have HSd := Lib.hid (keep177 kid HS.out)
                have HZ := Lib.hid (show pMul x.pl y.pl q = F R.length cur.length by
                  rw [HF.out]; show _ = pMul x.pl (atP m R.length cur.length) q
                  rw [atP_eq HRW.out.1 hy])
                have HC := Lib.hid (r5mul_any x y q wr.drew (HX3.out.kp kid) (hyr.kp kid) HVX.out (HRW.out.2.2.2.2 y (List.mem_of_getElem? hy)) hq0 hq1)
                have HW := Lib.hid (hown0.kp kd)
                have HKD := Lib.hid kid
                clear hy hyr hyS hpc hvc hcq kd kid hown0 hki
                go_upto_region 11 with fail
                clear hrcr
                have hSd := HSd.out
                go_region_held3 (fun w' => w'.cell? ⟨ba, oa + R.length, none⟩ = some (.slice (some ⟨b3, o3, none⟩) r.length rc) ∧ (w'.cell? ⟨w.heap.size, 0, none⟩ = some (.bool x.lo.neg) ∧ w'.cell? ⟨w.heap.size, 1, none⟩ = some (.slice x.lo.a x.lo.xs.length x.lo.c) ∧ w'.cell? ⟨w.heap.size, 2, none⟩ = some (.int .i64 x.lo.e) ∧ w'.cell? ⟨w.heap.size, 3, none⟩ = some (.bool x.hi.neg) ∧ w'.cell? ⟨w.heap.size, 4, none⟩ = some (.slice x.hi.a x.hi.xs.length x.hi.c) ∧ w'.cell? ⟨w.heap.size, 5, none⟩ = some (.int .i64 x.hi.e) ∧ w'.cell? ⟨w.heap.size, 6, none⟩ = some (.bool x.all)) ∧ w'.cell? ⟨b3, o3 + cur.length * 7, none⟩ = some (.bool y.lo.neg) ∧ w'.cell? ⟨b3, o3 + cur.length * 7 + 1, none⟩ = some (.slice y.lo.a y.lo.xs.length y.lo.c) ∧ w'.cell? ⟨b3, o3 + cur.length * 7 + 2, none⟩ = some (.int .i64 y.lo.e) ∧ w'.cell? ⟨b3, o3 + cur.length * 7 + 3, none⟩ = some (.bool y.hi.neg) ∧ w'.cell? ⟨b3, o3 + cur.length * 7 + 4, none⟩ = some (.slice y.hi.a y.hi.xs.length y.hi.c) ∧ w'.cell? ⟨b3, o3 + cur.length * 7 + 5, none⟩ = some (.int .i64 y.hi.e) ∧ w'.cell? ⟨b3, o3 + cur.length * 7 + 6, none⟩ = some (.bool y.all))
                  (first | with_reducible assumption | with_reducible exact keep177 (by assumption) (by assumption) | with_reducible exact keep177 ((Kp.refl _).alloc _) (by assumption) | with_reducible exact keep177 (HKI.out.trans hk9) HS.out | fail)
                  (first
                    | (go_at_call 106; (with_reducible refine HC.out.mono ?_); rintro e v1 ⟨z, rfl, hz, hzp, hzv, j1⟩
                       have hownA := HW.out.kp (j1.alloc (.cells #[.bool z.lo.neg, .slice z.lo.a z.lo.xs.length z.lo.c, .int .i64 z.lo.e, .bool z.hi.neg, .slice z.hi.a z.hi.xs.length z.hi.c, .int .i64 z.hi.e, .bool z.all] 43))
                       have hzA := hz.kp ((Kp.refl v1).alloc (.cells #[.bool z.lo.neg, .slice z.lo.a z.lo.xs.length z.lo.c, .int .i64 z.lo.e, .bool z.hi.neg, .slice z.hi.a z.hi.xs.length z.hi.c, .int .i64 z.hi.e, .bool z.all] 43))
                       have ZP := Lib.hid (And.intro (hzp.trans HZ.out) hzv)
                       clear hz hzp hzv)
                    | (refine step_append_ivg (by rfl) _ _ (by rfl) wi _ cur (by rfl) hownA _ _ (by rfl) z hzA (by simp) hcl ?_; intro a' c' w9 hown9 hgrow hblk; have hk9 := OwnN.base2 hown9)
                    | fail)
                go_wp2_with fail
                go_roundg (gk - 1)
                case measure => have := HPC.out.2.2; omega
                case rel =>
                  refine ⟨cur ++ [z], by have := HPC.out.2.2; rw [List.length_append, List.length_singleton]; omega, by rw [List.length_append, List.length_singleton]; go_num, by simpa using hown9, ?_, ok_snoc HPC.out.2.1 ZP.out.2⟩
                  rw [plR_snoc, HPC.out.1, List.length_append, List.length_singleton, rowF_snoc, ZP.out.1]
              · have hce : cur.length = r.length := by omega
                obtain ⟨ua, uc, rfl, huc, hum, hurow⟩ := hown0.value
                have kA := (Kp.refl wr).alloc (.cells #[.slice ua cur.length uc] 40)
                have HOA := HO.out.kp (hown0.1.trans kA)
                have hoff := OwnN.off (w' := wr.alloc (.cells #[.slice ua cur.length uc] 40)) hown0 rfl HO.out.new kA.size
                have hrowA := hurow.kp kA
                have HPC := Lib.hid (And.intro hpc (And.intro hvc hce))
                have hcl2 : cur.length ≤ 1100000 := by omega
                have hRl : R.length + 1 ≤ 9000000 := by omega
                clear hpc hvc hcq hown0 huc hum hurow kA hce hki
                go_wp2_with (at_builtin; refine wpList_append_rowi rfl _ _ rfl w2 _ us R rfl HOA _ _ rfl ua uc cur hrowA hoff hcl2 (by simp) hRl ?_; intro v' us' w9 hM9)
                go_roundg (gk1 - 1)
                case measure => have := Hlt.out; omega
                case rel =>
                  refine ⟨R ++ [cur], us', by have := Hlt.out; rw [List.length_append, List.length_singleton]; omega, by rw [List.length_append, List.length_singleton]; go_num, hM9, ?_, okM_snoc HH.out.2 HPC.out.2.1⟩
                  rw [plM_snoc, HH.out.1, List.length_append, List.length_singleton, tabM_snoc, HPC.out.1, HPC.out.2.2, HRW.out.2.2.2.1]
          · have hRe : R.length = m.length := by omega
            obtain ⟨va, vc, rfl, hvc1, hvc2, hrm⟩ := HO.out.value
            have HRe := Lib.hid (And.intro hRe hrm)
            clear hRe hRq hrm
            go_wp2_with fail
            refine bodyPost_ret (v := .slice va R.length vc) (by simp [results, Tryz.results50, go_sem]) rfl ?_
            rw [HDm.out]
            refine ⟨va, R, vc, rfl, HRe.out.2, ?_, HH.out.2, by have := HML.out; have := HRe.out.1; omega, HK3.out.trans hkr⟩
            rw [HH.out.1, HRe.out.1]
end Go.Proofs.YtdidocdpjiiedaaGreatDoor
end
