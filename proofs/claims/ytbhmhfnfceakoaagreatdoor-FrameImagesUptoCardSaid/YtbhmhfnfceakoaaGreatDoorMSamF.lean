/-
  Walks: the law's one, same (frames).
-/
import Derived.Deep.DeepFit
import Derived.Test.YtbhmhfnfceakoaaGreatDoorMApM
import Derived.Test.YtbhmhfnfceakoaaGreatDoorMIvMl
import Derived.Test.YtbhmhfnfceakoaaGreatDoorMEqfD
import Derived.Test.YtbhmhfnfceakoaaGreatDoorMOwnM
import Derived.Test.YtbhmhfnfceakoaaGreatDoorMAwkF
import Derived.Test.YtbhmhfnfceakoaaGreatDoorMCrdL
namespace Go.Proofs.YtbhmhfnfceakoaaGreatDoor
open Go.RowKit
set_option maxRecDepth 100000 in
set_option maxHeartbeats 4000000 in
theorem oneF_any (x y : RI) (w : World) (hx : x.rd w) (hy : y.rd w) :
    Calls Tryz.prog 32 #[.agg #[.bool x.lo.neg, .slice x.lo.a x.lo.xs.length x.lo.c, .int .i64 x.lo.e, .bool x.hi.neg, .slice x.hi.a x.hi.xs.length x.hi.c, .int .i64 x.hi.e, .bool x.all], .agg #[.bool y.lo.neg, .slice y.lo.a y.lo.xs.length y.lo.c, .int .i64 y.lo.e, .bool y.hi.neg, .slice y.hi.a y.hi.xs.length y.hi.c, .int .i64 y.hi.e, .bool y.all]] w fun e w' => e = .returned (.bool (oneR x y)) ∧ Kp w w' := by
  have H := Lib.hid (show oneR x y = ((x.all == y.all) && (sameR x.lo y.lo && sameR x.hi y.hi)) from rfl)
  by_cases hn : x.all = y.all
  rotate_left
  · have hn1 : (x.all == y.all) = false := by cases h1 : x.all <;> cases h2 : y.all <;> simp_all
    rw [hn1] at H
    clear hn
    go_enter Tryz.func32, Tryz.ntmps32
    go_wp2_with fail
    go_ret
    exact ⟨ret_bool (by rw [H.out]; simp), ((Kp.refl w).alloc _).alloc _⟩
  have hn1 : (x.all == y.all) = true := by rw [hn]; cases y.all <;> rfl
  have Hn := Lib.hid hn1
  clear hn
  go_enter Tryz.func32, Tryz.ntmps32
  go_wp2_with fail
  generalize hW : ((w.alloc _).alloc _) = W at *
  have hk : Kp w W := hW ▸ ((Kp.refl w).alloc _).alloc _
  have hS : (W.cell? ⟨w.heap.size, 0, none⟩ = some (.bool x.lo.neg) ∧ W.cell? ⟨w.heap.size, 1, none⟩ = some (.slice x.lo.a x.lo.xs.length x.lo.c) ∧ W.cell? ⟨w.heap.size, 2, none⟩ = some (.int .i64 x.lo.e) ∧ W.cell? ⟨w.heap.size, 3, none⟩ = some (.bool x.hi.neg) ∧ W.cell? ⟨w.heap.size, 4, none⟩ = some (.slice x.hi.a x.hi.xs.length x.hi.c) ∧ W.cell? ⟨w.heap.size, 5, none⟩ = some (.int .i64 x.hi.e) ∧ W.cell? ⟨w.heap.size, 6, none⟩ = some (.bool x.all)) ∧ W.cell? ⟨w.heap.size + 1, 0, none⟩ = some (.bool y.lo.neg) ∧ W.cell? ⟨w.heap.size + 1, 1, none⟩ = some (.slice y.lo.a y.lo.xs.length y.lo.c) ∧ W.cell? ⟨w.heap.size + 1, 2, none⟩ = some (.int .i64 y.lo.e) ∧ W.cell? ⟨w.heap.size + 1, 3, none⟩ = some (.bool y.hi.neg) ∧ W.cell? ⟨w.heap.size + 1, 4, none⟩ = some (.slice y.hi.a y.hi.xs.length y.hi.c) ∧ W.cell? ⟨w.heap.size + 1, 5, none⟩ = some (.int .i64 y.hi.e) ∧ W.cell? ⟨w.heap.size + 1, 6, none⟩ = some (.bool y.all) := by rw [← hW]; exact keep77 (Kp.refl _) (by simp)
  clear hW
  go_fit (numberF_any x.lo y.lo _ (hx.1.kp hk) (hy.1.kp hk))
  rintro e w1 ⟨rfl, hk1⟩
  cases hl : sameR x.lo y.lo with
  | false =>
    rw [hl] at H
    clear hl
    go_wp2_with fail
    go_ret
    exact ⟨ret_bool (by rw [H.out]; simp), hk.trans hk1⟩
  | true =>
  rw [hl] at H
  clear hl
  obtain ⟨⟨s0, s1, s2, s3, s4, s5, s6⟩, t0, t1, t2, t3, t4, t5, t6⟩ := keep77 hk1 hS
  clear hS
  go_wp2_with fail
  have hk2 := hk.trans hk1
  go_fit (numberF_any x.hi y.hi _ (hx.2.kp hk2) (hy.2.kp hk2))
  rintro e w2 ⟨rfl, hk3⟩
  go_wp2_with fail
  go_ret
  exact ⟨ret_bool (by rw [H.out, Hn.out]; simp), hk2.trans hk3⟩
theorem sameX {w w' : World} {X : List PI} {Y Z : List RI} (hY : ∀ x ∈ Y, x.rd w) (hZ : ∀ x ∈ Z, x.rd w') (vY : ∀ x ∈ Y, x.vl = true) (vZ : ∀ x ∈ Z, x.vl = true) (pY : plR Y = X) (pZ : plR Z = X) : allII oneR Y Z = true := by
  have e : plR Y = plR Z := pY.trans pZ.symm
  refine allII_true.2 ⟨by have := congrArg List.length e; simpa [plR] using this, fun i x y hx hy => ?_⟩
  have h1 : (plR Y)[i]? = some x.pl := by unfold plR; rw [List.getElem?_map, hx]; rfl
  have h2 : (plR Z)[i]? = some y.pl := by unfold plR; rw [List.getElem?_map, hy]; rfl
  rw [e, h2] at h1
  have mx := List.mem_of_getElem? hx
  have my := List.mem_of_getElem? hy
  exact oneR_pl (hY x mx) (hZ y my) (vY x mx) (vZ y my) (Option.some.inj h1).symm
set_option maxRecDepth 100000 in
set_option maxHeartbeats 16000000 in
theorem FImages_ok (f g : RF) (a b va : Option Addr) (j : List (List RI)) (z : List RI) (v : List (List RD)) (c d vc : Nat) (p : Int) (w : World) (hf : f.rd w) (hg : g.rd w) (hj : RowM w a j) (hz : RowI w b z) (hv : RowN w va v)
    (hl : j.length ≤ 1100000) (hl2 : z.length ≤ 1100000) (hl3 : v.length ≤ 1100000) (hT : Tab w) :
    Calls Tryz.prog 5 #[.agg #[.slice f.ca f.cs.length f.cc, .slice f.aa f.ms.length f.ac, .slice f.ra f.rs.length f.rc], .slice a j.length c, .slice b z.length d, .agg #[.slice g.ca g.cs.length g.cc, .slice g.aa g.ms.length g.ac, .slice g.ra g.rs.length g.rc], .slice va v.length vc, .int .i64 p] w fun e w' => e = .returned (.bool true) ∧ Kp w w' := by
  have HF := Lib.hid hf
  have HG := Lib.hid hg
  have HJ := Lib.hid hj
  have HZ := Lib.hid hz
  have HV := Lib.hid hv
  have HT := Lib.hid hT
  have kk := ((Kp.refl w).alloc (.cells #[.slice f.ca f.cs.length f.cc, .slice f.aa f.ms.length f.ac, .slice f.ra f.rs.length f.rc] 26)).alloc (.cells #[.slice g.ca g.cs.length g.cc, .slice g.aa g.ms.length g.ac, .slice g.ra g.rs.length g.rc] 26)
  clear hf hg hj hz hv hT
  go_enter Tryz.func5, Tryz.ntmps5
  go_upto_region 1 with fail
  have HS := Lib.hid (show ((w.alloc (.cells #[.slice f.ca f.cs.length f.cc, .slice f.aa f.ms.length f.ac, .slice f.ra f.rs.length f.rc] 26)).alloc (.cells #[.slice g.ca g.cs.length g.cc, .slice g.aa g.ms.length g.ac, .slice g.ra g.rs.length g.rc] 26)).cell? ⟨w.heap.size, 0, none⟩ = some (.slice f.ca f.cs.length f.cc) ∧ ((w.alloc (.cells #[.slice f.ca f.cs.length f.cc, .slice f.aa f.ms.length f.ac, .slice f.ra f.rs.length f.rc] 26)).alloc (.cells #[.slice g.ca g.cs.length g.cc, .slice g.aa g.ms.length g.ac, .slice g.ra g.rs.length g.rc] 26)).cell? ⟨w.heap.size, 1, none⟩ = some (.slice f.aa f.ms.length f.ac) ∧ ((w.alloc (.cells #[.slice f.ca f.cs.length f.cc, .slice f.aa f.ms.length f.ac, .slice f.ra f.rs.length f.rc] 26)).alloc (.cells #[.slice g.ca g.cs.length g.cc, .slice g.aa g.ms.length g.ac, .slice g.ra g.rs.length g.rc] 26)).cell? ⟨w.heap.size, 2, none⟩ = some (.slice f.ra f.rs.length f.rc) from keep3 ((Kp.refl _).alloc _) (show (w.alloc (.cells #[.slice f.ca f.cs.length f.cc, .slice f.aa f.ms.length f.ac, .slice f.ra f.rs.length f.rc] 26)).cell? ⟨w.heap.size, 0, none⟩ = some (.slice f.ca f.cs.length f.cc) ∧ (w.alloc (.cells #[.slice f.ca f.cs.length f.cc, .slice f.aa f.ms.length f.ac, .slice f.ra f.rs.length f.rc] 26)).cell? ⟨w.heap.size, 1, none⟩ = some (.slice f.aa f.ms.length f.ac) ∧ (w.alloc (.cells #[.slice f.ca f.cs.length f.cc, .slice f.aa f.ms.length f.ac, .slice f.ra f.rs.length f.rc] 26)).cell? ⟨w.heap.size, 2, none⟩ = some (.slice f.ra f.rs.length f.rc) by simp))
  have HSG := Lib.hid (show ((w.alloc (.cells #[.slice f.ca f.cs.length f.cc, .slice f.aa f.ms.length f.ac, .slice f.ra f.rs.length f.rc] 26)).alloc (.cells #[.slice g.ca g.cs.length g.cc, .slice g.aa g.ms.length g.ac, .slice g.ra g.rs.length g.rc] 26)).cell? ⟨w.heap.size + 1, 0, none⟩ = some (.slice g.ca g.cs.length g.cc) ∧ ((w.alloc (.cells #[.slice f.ca f.cs.length f.cc, .slice f.aa f.ms.length f.ac, .slice f.ra f.rs.length f.rc] 26)).alloc (.cells #[.slice g.ca g.cs.length g.cc, .slice g.aa g.ms.length g.ac, .slice g.ra g.rs.length g.rc] 26)).cell? ⟨w.heap.size + 1, 1, none⟩ = some (.slice g.aa g.ms.length g.ac) ∧ ((w.alloc (.cells #[.slice f.ca f.cs.length f.cc, .slice f.aa f.ms.length f.ac, .slice f.ra f.rs.length f.rc] 26)).alloc (.cells #[.slice g.ca g.cs.length g.cc, .slice g.aa g.ms.length g.ac, .slice g.ra g.rs.length g.rc] 26)).cell? ⟨w.heap.size + 1, 2, none⟩ = some (.slice g.ra g.rs.length g.rc) by simp)
  generalize hW : (w.alloc _).alloc _ = W at *
  clear hW
  go_wp2_with fail
  go_fit (awakeF_any _ (HT.out.kp kk))
  rintro e w1 ⟨rfl, k1⟩
  have HK1 := Lib.hid (kk.trans k1)
  obtain ⟨s0, s1, s2⟩ := keepF k1 HS.out
  obtain ⟨t0, t1, t2⟩ := keepF k1 HSG.out
  have HS1 := Lib.hid (And.intro (keepF k1 HS.out) (keepF k1 HSG.out))
  clear k1 kk HS HSG
  go_wp2_with fail
  go_fit (hugeL_any f a b j z c d p _ (HF.out.kp HK1.out) (HJ.out.kp HK1.out) (HZ.out.kp HK1.out) hl hl2)
  rintro e w2 ⟨rfl, k2⟩
  have HK2 := Lib.hid (HK1.out.trans k2)
  have HS2 := Lib.hid (And.intro (keepF k2 HS1.out.1) (keepF k2 HS1.out.2))
  clear k2 HS1 s0 s1 s2 t0 t1 t2 HK1
  cases hh : hugeL f j z p with
  | true =>
    clear hh
    go_wp2_with fail
    go_ret
    exact ⟨rfl, HK2.out⟩
  | false =>
  clear hh
  obtain ⟨t0, t1, t2⟩ := HS2.out.2
  go_wp2_with fail
  go_fit (greatF_any g _ (HG.out.kp HK2.out))
  rintro e w3 ⟨rfl, k3⟩
  have HK3 := Lib.hid (HK2.out.trans k3)
  have HS3 := Lib.hid (And.intro (keepF k3 HS2.out.1) (keepF k3 HS2.out.2))
  clear k3 HS2 t0 t1 t2 HK2
  cases hh : greatF g with
  | true =>
    clear hh
    go_wp2_with fail
    go_ret
    exact ⟨rfl, HK3.out⟩
  | false =>
  clear hh
  go_wp2_with fail
  go_fit (rowsF_any v va vc _ (HV.out.kp HK3.out) hl3)
  rintro e w4 ⟨rfl, k4⟩
  have HK4 := Lib.hid (HK3.out.trans k4)
  have HS4 := Lib.hid (And.intro (keepF k4 HS3.out.1) (keepF k4 HS3.out.2))
  clear k4 HS3 HK3
  cases hh : rowsF v with
  | true =>
    clear hh
    go_wp2_with fail
    go_ret
    exact ⟨rfl, HK4.out⟩
  | false =>
  clear hh
  obtain ⟨D, hD⟩ : ∃ D, D = crdC f g j z v p := ⟨_, rfl⟩
  have HI := Lib.hid (fun (W : World) (k : Kp w W) => fimage_any f g a b va j z v c d vc p W (HF.out.kp k) (HG.out.kp k) (HJ.out.kp k) (HZ.out.kp k) (HV.out.kp k) hl hl2 hl3 (HT.out.kp k))
  have HC := Lib.hid (fun (W : World) (k : Kp w W) => coordL_any f g a b va j z v c d vc p W (HF.out.kp k) (HG.out.kp k) (HJ.out.kp k) (HZ.out.kp k) (HV.out.kp k) hl hl2 hl3 (HT.out.kp k))
  rw [← hD] at HI HC
  clear hD
  obtain ⟨s0, s1, s2⟩ := HS4.out.1
  obtain ⟨t0, t1, t2⟩ := HS4.out.2
  go_wp2_with fail
  go_fit (HI.out _ HK4.out)
  rintro e w5 ⟨aX, X, cX, rfl, rX, pX, vX, lX, k5⟩
  have HK5 := Lib.hid (HK4.out.trans k5)
  have HX := Lib.hid (And.intro rX (And.intro pX (And.intro vX lX)))
  have HS5 := Lib.hid (And.intro (keepF k5 HS4.out.1) (keepF k5 HS4.out.2))
  clear k5 HS4 HK4 s0 s1 s2 t0 t1 t2 rX pX vX lX HI
  obtain ⟨s0, s1, s2⟩ := HS5.out.1
  obtain ⟨t0, t1, t2⟩ := HS5.out.2
  go_wp2_with fail
  go_fit (HC.out _ HK5.out)
  rintro e w6 ⟨aY, Y, cY, rfl, rY, pY, vY, lY, k6⟩
  have HK6 := Lib.hid (HK5.out.trans k6)
  have rX := HX.out.1.kp k6
  have hs := sameX (fun x hx => rX.rdI hx) (fun x hx => rY.rdI hx) HX.out.2.2.1 vY HX.out.2.1 pY
  have hp : AnsII Tryz.prog 32 #[] w6 X Y oneR :=
    ⟨fun _ _ => by kernel_rfl, fun x hx y hy' w1 k => oneF_any x y w1 ((rX.rdI hx).kp k) ((rY.rdI hy').kp k)⟩
  have HE := Lib.hid (eqfII aX aY X Y cX cY _ _ w6 oneR HX.out.2.2.2 rX rY hp)
  rw [hs] at HE
  clear hp hs rX rY pY vY lY k6 HS5 s0 s1 s2 t0 t1 t2 HC
  go_wp2_with fail
  go_fit HE.out
  rintro e w7 ⟨rfl, k7⟩
  go_wp2_with fail
  go_ret
  exact ⟨by simp, HK6.out.trans k7⟩
end Go.Proofs.YtbhmhfnfceakoaaGreatDoor
