/-
  Walks: the law's awake.
-/
import Derived.Test.YtkohlmlmoapedaaGreatDoorMBoxG
namespace Go.Proofs.YtkohlmlmoapedaaGreatDoor
open Go.RowKit

theorem keepA {w w' : World} (k : Kp w w') {p q0 q1 q2 r0 r1 r2 s0 s1 s2 : Addr} {v u0 u1 u2 t0 t1 t2 x0 x1 x2 : Value}
    (h : w.cell? p = some v ∧ (w.cell? q0 = some u0 ∧ w.cell? q1 = some u1 ∧ w.cell? q2 = some u2) ∧ (w.cell? r0 = some t0 ∧ w.cell? r1 = some t1 ∧ w.cell? r2 = some t2) ∧ w.cell? s0 = some x0 ∧ w.cell? s1 = some x1 ∧ w.cell? s2 = some x2) :
    w'.cell? p = some v ∧ (w'.cell? q0 = some u0 ∧ w'.cell? q1 = some u1 ∧ w'.cell? q2 = some u2) ∧ (w'.cell? r0 = some t0 ∧ w'.cell? r1 = some t1 ∧ w'.cell? r2 = some t2) ∧ w'.cell? s0 = some x0 ∧ w'.cell? s1 = some x1 ∧ w'.cell? s2 = some x2 :=
  ⟨k.cell h.1, keep3 k h.2.1, keep3 k h.2.2.1, keep3 k h.2.2.2⟩
theorem rndB_one {w : World} {y : RD} (_hy : y.rd w) (hd : y.dy = dyN 1) (hv : y.vl = true) : rndB y 8 false = (dyN 1, 0) := by
  have hf : fltB 8 [y] = 0 := fltB_zero.2 ⟨by simp [hv], by decide, by decide⟩
  unfold rndB
  rw [if_pos hf]
  have e1 : y.neg = false := by rw [show y.neg = y.dy.neg from rfl, hd, dyN_one]
  have e2 : val y.xs = 1 := by rw [show val y.xs = y.dy.m from rfl, hd, dyN_one]
  have e3 : y.e = 0 := by rw [show y.e = y.dy.e from rfl, hd, dyN_one]
  rw [e1, e2, e3]
  show rndE (sgnR false (rcut 1 0 false 8 false)) = _
  rw [rcut_one]; rfl
theorem iv_of {y : RD} {n : Nat} (hd : y.dy = dyN n) : y.iv = (dyN n).iv := by unfold RD.iv; rw [hd]
theorem rdZero_iv : rdZero.iv = 0 := Dy.iv_zero
theorem dyN_nonneg (n : Nat) : 0 ≤ (dyN n).iv := by
  obtain ⟨k, _, e⟩ := dyN_iv n
  rw [e]; omega
/-- the box of the chapter's example -/
def exB (y1 y2 y3 : RD) : List RI := [⟨rdZero, y1, false⟩, ⟨y2, y3, false⟩]
theorem exB_ok {w : World} {y1 y2 y3 : RD} (h1 : y1.ok w) (h2 : y2.ok w) (h3 : y3.ok w) (d1 : y1.dy = dyN 1) (d2 : y2.dy = dyN 2) (d3 : y3.dy = dyN 3) :
    RI.ok w ⟨rdZero, y1, false⟩ ∧ RI.ok w ⟨y2, y3, false⟩ := by
  refine ⟨RI.ok_mk ⟨rdZero_rd w, rdZero_vl⟩ h1 ?_, RI.ok_mk h2 h3 ?_⟩
  · rw [rdZero_iv, iv_of d1]; exact dyN_nonneg 1
  · rw [iv_of d2, iv_of d3]; exact dyN_mono (by decide)
theorem exB_vl {w : World} {y1 y2 y3 : RD} (h : RI.ok w ⟨rdZero, y1, false⟩ ∧ RI.ok w ⟨y2, y3, false⟩) : vlB (exB y1 y2 y3) = true := by
  refine vlB_iff.2 ⟨by unfold exB; simp, by unfold exB; simp, ?_⟩
  unfold exB
  simp [(goodI_ok h.1.1).2 h.1, (goodI_ok h.2.1).2 h.2]
theorem exB_corner (y1 y2 y3 : RD) : ((List.range (2 ^ (exB y1 y2 y3).length)).map (cornF (exB y1 y2 y3)))[1]? = some [y1, y2] := by
  unfold exB
  simp [cornF]
theorem exB_mid {w : World} {y1 : RD} (h : RI.ok w ⟨rdZero, y1, false⟩) (d1 : y1.dy = dyN 1) (hT : Tab w) :
    Calls Tryz.prog 43 #[.agg #[.bool (RI.mk rdZero y1 false).lo.neg, .slice (RI.mk rdZero y1 false).lo.a (RI.mk rdZero y1 false).lo.xs.length (RI.mk rdZero y1 false).lo.c, .int .i64 (RI.mk rdZero y1 false).lo.e, .bool (RI.mk rdZero y1 false).hi.neg, .slice (RI.mk rdZero y1 false).hi.a (RI.mk rdZero y1 false).hi.xs.length (RI.mk rdZero y1 false).hi.c, .int .i64 (RI.mk rdZero y1 false).hi.e, .bool false], .int .i64 8] w (NumOut w dyH) := by
  have hr : rndB y1 ((8 : Nat) : Int) false = (dyN 1, 0) := rndB_one h.hi.1 d1 h.hi.2
  have hm : midOk ⟨rdZero, y1, false⟩ (dyN 1) := by
    unfold midOk
    rw [chk_half]
    refine ⟨rfl, ?_⟩
    unfold hasI
    rw [rdOf_iv]
    have := half_iv
    rw [Bool.and_eq_true, decide_eq_true_eq, decide_eq_true_eq]
    refine ⟨?_, ?_⟩
    · show rdZero.iv ≤ _; rw [rdZero_iv]; exact this.1
    · show _ ≤ y1.iv; rw [iv_of d1]; exact this.2
  have hM := Mid_in ⟨rdZero, y1, false⟩ 8 (dyN 1) w h (dyN_ok (by decide)) (by decide) (by decide) hT (fun W k => AddDown_of rdZero y1 8 (dyN 1) 0 W fun W' k' => by
    have ha := addz_ok rdZero y1 8 false W' ((h.lo.kp k).kp k') ((h.hi.kp k).kp k') rfl (by decide) (by decide) ((hT.kp k).kp k')
    rw [hr] at ha
    exact ha) hm
  rw [chk_half] at hM
  exact hM
set_option maxRecDepth 100000 in
set_option maxHeartbeats 8000000 in
theorem awake_ok (w : World) (hT : Tab w) :
    Calls Tryz.prog 4 #[] w fun e w' => e = .returned (.bool true) ∧ Kp w w' := by
  go_enter Tryz.func4, Tryz.ntmps4
  go_wp2_with fail
  refine (awake1_num 1 _ (by decide)).mono ?_
  rintro e w1 ⟨y1, rfl, r1, d1, v1, k1⟩
  go_wp2_with fail
  refine (awake1_num 2 _ (by decide)).mono ?_
  rintro e w2 ⟨y2, rfl, r2, d2, v2, k2⟩
  go_wp2_with fail
  refine (awake1_num 3 _ (by decide)).mono ?_
  rintro e w3 ⟨y3, rfl, r3, d3, v3, k3⟩
  have o1 : y1.ok w3 := ⟨(r1.kp k2).kp k3, v1 (dyN_ok (by decide))⟩
  have o2 : y2.ok w3 := ⟨r2.kp k3, v2 (dyN_ok (by decide))⟩
  have o3 : y3.ok w3 := ⟨r3, v3 (dyN_ok (by decide))⟩
  have hok := exB_ok o1 o2 o3 d1 d2 d3
  have hvB := exB_vl hok
  have hR := rowI_two w3 ⟨rdZero, y1, false⟩ ⟨y2, y3, false⟩ hok.1.1 hok.2.1 rfl rfl 34
  have hk4 := (k1.trans (k2.trans k3)).alloc (.cells #[.bool (RI.mk rdZero y1 false).lo.neg, .slice (RI.mk rdZero y1 false).lo.a (RI.mk rdZero y1 false).lo.xs.length (RI.mk rdZero y1 false).lo.c, .int .i64 (RI.mk rdZero y1 false).lo.e, .bool (RI.mk rdZero y1 false).hi.neg, .slice (RI.mk rdZero y1 false).hi.a (RI.mk rdZero y1 false).hi.xs.length (RI.mk rdZero y1 false).hi.c, .int .i64 (RI.mk rdZero y1 false).hi.e, .bool false, .bool (RI.mk y2 y3 false).lo.neg, .slice (RI.mk y2 y3 false).lo.a (RI.mk y2 y3 false).lo.xs.length (RI.mk y2 y3 false).lo.c, .int .i64 (RI.mk y2 y3 false).lo.e, .bool (RI.mk y2 y3 false).hi.neg, .slice (RI.mk y2 y3 false).hi.a (RI.mk y2 y3 false).hi.xs.length (RI.mk y2 y3 false).hi.c, .int .i64 (RI.mk y2 y3 false).hi.e, .bool false] 34)
  have hk34 := (Kp.refl w3).alloc (.cells #[.bool (RI.mk rdZero y1 false).lo.neg, .slice (RI.mk rdZero y1 false).lo.a (RI.mk rdZero y1 false).lo.xs.length (RI.mk rdZero y1 false).lo.c, .int .i64 (RI.mk rdZero y1 false).lo.e, .bool (RI.mk rdZero y1 false).hi.neg, .slice (RI.mk rdZero y1 false).hi.a (RI.mk rdZero y1 false).hi.xs.length (RI.mk rdZero y1 false).hi.c, .int .i64 (RI.mk rdZero y1 false).hi.e, .bool false, .bool (RI.mk y2 y3 false).lo.neg, .slice (RI.mk y2 y3 false).lo.a (RI.mk y2 y3 false).lo.xs.length (RI.mk y2 y3 false).lo.c, .int .i64 (RI.mk y2 y3 false).lo.e, .bool (RI.mk y2 y3 false).hi.neg, .slice (RI.mk y2 y3 false).hi.a (RI.mk y2 y3 false).hi.xs.length (RI.mk y2 y3 false).hi.c, .int .i64 (RI.mk y2 y3 false).hi.e, .bool false] 34)
  have D1 := Lib.hid d1
  have D2 := Lib.hid d2
  clear k1 k2 k3 d2 d3 r1 r2 r3 v1 v2 v3
  go_wp2_with fail
  have hC := Corners_ok (some ⟨w3.heap.size, 0, none⟩) (exB y1 y2 y3) 2 _ hR hvB (by unfold exB; simp)
  refine hC.mono ?_
  rintro e w5 ⟨v5, us, rfl, hown⟩
  have hk5 := hk4.trans hown.1.2
  have hk35 := hk34.trans hown.1.2
  have hl4 : ((List.range (2 ^ (exB y1 y2 y3).length)).map (cornF (exB y1 y2 y3))).length = 4 := by unfold exB; simp
  obtain ⟨bl, cl, e5, hrows⟩ := hown.value (by rw [hl4]; decide)
  rw [hl4] at e5
  subst e5
  obtain ⟨gr, cr, hcl, hrow⟩ := hrows 1 [y1, y2] (exB_corner y1 y2 y3)
  have hR5 := hR.kp hown.1.2
  have hSp := Split_of _ 0 2 8 ⟨rdZero, y1, false⟩ [⟨y2, y3, false⟩] dyH w5 hR5 hvB (by decide) (by decide) (fun W k => exB_mid ((hok.1.kp hk35).kp k) D1.out ((hT.kp hk5).kp k))
  clear hrows hl4 hown hC hR hR5 hk4 hk34
  go_wp2_with fail
  refine hSp.mono ?_
  rintro e w6 ⟨g1, c1, g2, c2, y, rfl, hcells, hyr, hyd, hyv, hk6⟩
  clear hSp
  have hk7 := hk5.trans hk6
  have hrow6 := hrow.kp hk6
  have hcl6 := hk6.cell hcl
  have ok1 := (o1.kp hk35).kp hk6
  have ok2 := (o2.kp hk35).kp hk6
  clear hcl hrow hk5 hk6 hk35 hok o1 o2 o3
  go_wp2_with fail
  have hkk := ((Kp.refl w6).alloc (.cells #[.int .u32 1] 45)).alloc (.cells #[.bool false, .slice (some ⟨w6.heap.size, 0, none⟩) 1 1, .int .i64 (-1)] 25)
  have hh : ((w6.alloc (.cells #[.int .u32 1] 45)).alloc (.cells #[.bool false, .slice (some ⟨w6.heap.size, 0, none⟩) 1 1, .int .i64 (-1)] 25)).cell? ⟨w6.heap.size + 1, 0, none⟩ = some (.bool false) ∧ ((w6.alloc (.cells #[.int .u32 1] 45)).alloc (.cells #[.bool false, .slice (some ⟨w6.heap.size, 0, none⟩) 1 1, .int .i64 (-1)] 25)).cell? ⟨w6.heap.size + 1, 1, none⟩ = some (.slice (some ⟨w6.heap.size, 0, none⟩) 1 1) ∧ ((w6.alloc (.cells #[.int .u32 1] 45)).alloc (.cells #[.bool false, .slice (some ⟨w6.heap.size, 0, none⟩) 1 1, .int .i64 (-1)] 25)).cell? ⟨w6.heap.size + 1, 2, none⟩ = some (.int .i64 (-1)) := by simp
  obtain ⟨hf, hfe⟩ : ∃ hf : RD, hf = RD.mk false (some ⟨w6.heap.size, 0, none⟩) [1] 1 (-1) := ⟨_, rfl⟩
  have hfr : hf.rd ((w6.alloc (.cells #[.int .u32 1] 45)).alloc (.cells #[.bool false, .slice (some ⟨w6.heap.size, 0, none⟩) 1 1, .int .i64 (-1)] 25)) := by
    rw [hfe]
    exact ⟨(rd_one w6).kp ((Kp.refl _).alloc _), Nat.le_refl _, by show 1 ≤ maxLen; unfold maxLen; omega, by show 1 ≤ 1100000; omega, ⟨by show (-9223372036854775808 : Int) ≤ -1; omega, by show (-1 : Int) ≤ 9223372036854775807; omega⟩⟩
  have hfd : hf.dy = dyH := by rw [hfe]; rfl
  have hfv : hf.vl = true := by
    have := ok_vld dyH_ok
    rw [hfe]
    show vld false [1] (-1) = true
    have e : limbs dyH.m = [1] := limbs_one
    rwa [e] at this
  have heq : eqR y hf = true := eqR_of hyr hfr (hyv dyH_ok) hfv (hyd.trans hfd.symm)
  have HE := Lib.hid heq
  have hp0 := keepA hkk (And.intro (show w6.cell? ⟨bl, 1, none⟩ = some (.slice (some ⟨gr, 0, none⟩) 2 cr) from hcl6) (And.intro hcells.1 (And.intro hcells.2 hcells.2)))
  have hp1 := And.intro hp0.1 (And.intro hp0.2.1 (And.intro hp0.2.2.1 hh))
  have hrow7 := hrow6.kp hkk
  have hyr7 := hyr.kp hkk
  have hk8 := hk7.trans hkk
  have ok17 := ok1.kp hkk
  have ok27 := ok2.kp hkk
  have HF := Lib.hid hfe
  clear hp0 hh hcells hcl6 hrow6 hyr hkk hyd hyv hfd hfv heq hfe ok1 ok2 hk7
  generalize ((w6.alloc _).alloc _) = W8 at *
  have hp2 := keepA (Kp.refl W8).drew hp1
  have hcur : Kp W8.drew W8.drew := Kp.refl _
  have hk9 := hk8.drew
  have hrow9 := hrow7.kp (Kp.refl W8).drew
  have hyr9 := hyr7.drew
  have hfr9 := hfr.drew
  have ok19 := ok17.drew
  have ok29 := ok27.drew
  clear hp1 hk8 hrow7 hyr7 hfr ok17 ok27
  have d1' := D1.out
  have HD1 := Lib.hid d1'
  clear d1' d1
  go_region_held3 (fun w' => w'.cell? ⟨bl, 1, none⟩ = some (.slice (some ⟨gr, 0, none⟩) 2 cr) ∧ (w'.cell? ⟨g1, 3, none⟩ = some (.bool y.neg) ∧ w'.cell? ⟨g1, 4, none⟩ = some (.slice y.a y.xs.length y.c) ∧ w'.cell? ⟨g1, 5, none⟩ = some (.int .i64 y.e)) ∧ (w'.cell? ⟨g2, 0, none⟩ = some (.bool y.neg) ∧ w'.cell? ⟨g2, 1, none⟩ = some (.slice y.a y.xs.length y.c) ∧ w'.cell? ⟨g2, 2, none⟩ = some (.int .i64 y.e)) ∧ w'.cell? ⟨w6.heap.size + 1, 0, none⟩ = some (.bool false) ∧ w'.cell? ⟨w6.heap.size + 1, 1, none⟩ = some (.slice (some ⟨w6.heap.size, 0, none⟩) 1 1) ∧ w'.cell? ⟨w6.heap.size + 1, 2, none⟩ = some (.int .i64 (-1))) (first | with_reducible assumption | with_reducible exact keepA (by assumption) (by assumption) | with_reducible exact keepA ((Kp.refl _).alloc _) (by assumption))
    (first
      | (go_at_call_of 14 (Value.int .i64 1); refine (awake1_num 1 _ (by decide)).mono ?_; rintro e wa ⟨u1, rfl, hu1, hd1, hv1, hka⟩
         have hcur := hcur.trans hka
         have hv1 := Lib.hid (hv1 (dyN_ok (by decide)))
         have hd1 := Lib.hid hd1
         (try have hu2 := hu2.kp hka))
      | (go_at_call_of 14 (Value.int .i64 2); refine (awake1_num 2 _ (by decide)).mono ?_; rintro e wb ⟨u2, rfl, hu2, hd2, hv2, hkb⟩
         have hcur := hcur.trans hkb
         have hv2 := Lib.hid (hv2 (dyN_ok (by decide)))
         have hd2 := Lib.hid hd2
         (try have hu1 := hu1.kp hkb))
      | (go_at_call 18
         have hpts : allDD eqR [y1, y2] [u1, u2] = true := by
           have e1 := eqR_of ok19.1 hu1 ok19.2 hv1.out (HD1.out.trans hd1.out.symm)
           have e2 := eqR_of ok29.1 hu2 ok29.2 hv2.out (D2.out.trans hd2.out.symm)
           simp [allDD, e1, e2]
         have hP := points_any _ _ [y1, y2] [u1, u2] cr 2 _ (hrow9.kp (hcur.alloc (.cells #[.bool u1.neg, .slice u1.a u1.xs.length u1.c, .int .i64 u1.e, .bool u2.neg, .slice u2.a u2.xs.length u2.c, .int .i64 u2.e] 25))) (by simp) (rowD_two _ u1 u2 hu1 hu2 25) (by simp)
         rw [hpts] at hP
         refine hP.mono ?_
         rintro e wp ⟨rfl, hkp⟩
         have hcur := (hcur.alloc _).trans hkp
         clear hP hpts)
      | (go_at_call 19
         have hE := r2Equal_any y hf _ (hyr9.kp hcur) (hfr9.kp hcur)
         rw [HE.out, HF.out] at hE
         refine hE.mono ?_
         rintro e wq ⟨rfl, hkq⟩
         have hcur := hcur.trans hkq
         clear hE))
  all_goals have hfin := hk9.trans hcur
  all_goals clear hrow9 hyr9 hfr9 ok19 ok29 hcur hk9 hp2
  all_goals
    go_wp2_with fail
    go_ret
    exact ⟨rfl, hfin⟩
end Go.Proofs.YtkohlmlmoapedaaGreatDoor
