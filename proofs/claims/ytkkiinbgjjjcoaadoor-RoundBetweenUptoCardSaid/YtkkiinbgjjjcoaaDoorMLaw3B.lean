/-
  Walks: the law RoundBetween.
-/
import Derived.Test.YtkkiinbgjjjcoaaDoorMLaw3P
import Derived.Deep.Cut
namespace Go.Proofs.YtkkiinbgjjjcoaaDoor
open Go.RowKit

theorem isB_iff {w : World} {x : RD} (hx : x.ok w) {p : Int} : isB x p = true ↔ (8 ≤ p ∧ p ≤ 512) ∧ (bits x.dy.m : Int) ≤ p := by
  unfold isB
  rw [Bool.and_eq_true, decide_eq_true_eq, decide_eq_true_eq, fltB_zero]
  constructor
  · rintro ⟨⟨_, h1, h2⟩, h3⟩; exact ⟨⟨h1, h2⟩, h3⟩
  · rintro ⟨⟨h1, h2⟩, h3⟩; exact ⟨⟨by simp [hx.2], h1, h2⟩, h3⟩
/-- a number of p bits is rounded to itself, without an error -/
theorem isB_code {w : World} {x : RD} (hx : x.ok w) {p : Int} (h : isB x p = true) (up : Bool) : (rndB x p up).2 = 0 := by
  obtain ⟨⟨h1, h2⟩, h3⟩ := (isB_iff hx).1 h
  rw [rndB_rnd hx h1 h2]
  have hP : isP p.toNat x.dy := ⟨rdok_dy hx, by omega⟩
  cases up with
  | false =>
    cases hr : rnd 0 x.iv p.toNat false with
    | none => exact absurd (Int.le_refl _) (down_none (by omega) (by omega) hr _ hP)
    | some d => rfl
  | true =>
    cases hr : rnd 0 x.iv p.toNat true with
    | none => exact absurd (Int.le_refl _) (up_none (by omega) (by omega) hr _ hP)
    | some d => rfl
theorem near_bad {x : RD} {p : Int} (h : (rndB x p false).2 ≠ 0 ∨ (rndB x p true).2 ≠ 0) : (nearR x p).2 ≠ 0 := by
  unfold nearR
  by_cases h1 : (rndB x p false).2 = 0
  · rw [if_neg (by rw [h1]; simp), if_pos (h.resolve_left (fun k => k h1))]
    exact h.resolve_left (fun k => k h1)
  · rw [if_pos h1]; exact h1
theorem near_good {x : RD} {p : Int} (h1 : (rndB x p false).2 = 0) (h2 : (rndB x p true).2 = 0) : ∃ b : Bool, nearR x p = (if b then (rndB x p true).1 else (rndB x p false).1, 0) := by
  refine ⟨nearB (rndB x p false).1 (rndB x p true).1 (difD x.dy (rndB x p false).1) (difD (rndB x p true).1 x.dy), ?_⟩
  unfold nearR
  rw [if_neg (by rw [h1]; simp), if_neg (by rw [h2]; simp)]
theorem law_between {w w1 w2 : World} {x lo hi : RD} (hx : x.ok w) (hl : lo.ok w1) (hh : hi.ok w2) {p : Int} (h1 : (rndB x p false).2 = 0) (h2 : (rndB x p true).2 = 0) (el : lo.dy = (rndB x p false).1) (eh : hi.dy = (rndB x p true).1) :
    isB lo p = true ∧ isB hi p = true ∧ lo.iv ≤ x.iv ∧ x.iv ≤ hi.iv ∧ (cmpZ lo.iv hi.iv == 0) = isB x p := by
  obtain ⟨g1, g2⟩ := rndB_good h1
  have r1 := rndB_some hx h1
  have r2 := rndB_some hx h2
  rw [← el] at r1
  rw [← eh] at r2
  obtain ⟨a1, a2, _⟩ := down_spec (by omega) (by omega) r1
  obtain ⟨b1, b2, _⟩ := up_spec (by omega) (by omega) r2
  have hb := between_eq (rdok_dy hx) (by omega : 0 < p.toNat) (by omega) r1 r2
  refine ⟨(isB_iff hl).2 ⟨⟨g1, g2⟩, by have := a1.2; omega⟩, (isB_iff hh).2 ⟨⟨g1, g2⟩, by have := b1.2; omega⟩, a2, b2, ?_⟩
  rw [Bool.eq_iff_iff, isB_iff hx, beq_iff_eq]
  have hc : cmpZ lo.iv hi.iv = 0 ↔ lo.dy.iv = hi.dy.iv := by
    show cmpZ lo.dy.iv hi.dy.iv = 0 ↔ _
    unfold cmpZ; split <;> (try split) <;> omega
  rw [hc, hb]
  constructor
  · intro h; exact ⟨⟨g1, g2⟩, by omega⟩
  · rintro ⟨_, h⟩; omega
theorem keepS9 {w w' : World} (k : Kp w w') {b1 b2 b3 : Nat} {x y z : RD} (h : w.cell? ⟨b1, 0, none⟩ = some (.bool x.neg) ∧ w.cell? ⟨b1, 1, none⟩ = some (.slice x.a x.xs.length x.c) ∧ w.cell? ⟨b1, 2, none⟩ = some (.int .i64 x.e) ∧ w.cell? ⟨b2, 0, none⟩ = some (.bool y.neg) ∧ w.cell? ⟨b2, 1, none⟩ = some (.slice y.a y.xs.length y.c) ∧ w.cell? ⟨b2, 2, none⟩ = some (.int .i64 y.e) ∧ w.cell? ⟨b3, 0, none⟩ = some (.bool z.neg) ∧ w.cell? ⟨b3, 1, none⟩ = some (.slice z.a z.xs.length z.c) ∧ w.cell? ⟨b3, 2, none⟩ = some (.int .i64 z.e)) : w'.cell? ⟨b1, 0, none⟩ = some (.bool x.neg) ∧ w'.cell? ⟨b1, 1, none⟩ = some (.slice x.a x.xs.length x.c) ∧ w'.cell? ⟨b1, 2, none⟩ = some (.int .i64 x.e) ∧ w'.cell? ⟨b2, 0, none⟩ = some (.bool y.neg) ∧ w'.cell? ⟨b2, 1, none⟩ = some (.slice y.a y.xs.length y.c) ∧ w'.cell? ⟨b2, 2, none⟩ = some (.int .i64 y.e) ∧ w'.cell? ⟨b3, 0, none⟩ = some (.bool z.neg) ∧ w'.cell? ⟨b3, 1, none⟩ = some (.slice z.a z.xs.length z.c) ∧ w'.cell? ⟨b3, 2, none⟩ = some (.int .i64 z.e) := by
  obtain ⟨a0, a1, a2, c0, c1, c2, d0, d1, d2⟩ := h
  exact ⟨k.cell a0, k.cell a1, k.cell a2, k.cell c0, k.cell c1, k.cell c2, k.cell d0, k.cell d1, k.cell d2⟩
/-- does the law stop at once? -/
def outB (x : RD) : Bool := [x].any lng2 || !x.vl
set_option maxRecDepth 100000 in
set_option maxHeartbeats 32000000 in
theorem Between_ok (x : RD) (p : Int) (w : World) (hx : x.rd w) (hT : Tab w) :
    Calls Tryd.prog 4 #[.agg #[.bool x.neg, .slice x.a x.xs.length x.c, .int .i64 x.e], .int .i64 p] w fun e w' => e = .returned (.bool true) ∧ Kp w w' := by
  go_enter Tryd.func4, Tryd.ntmps4
  go_upto_region 1 with fail
  generalize hW : (w.alloc _) = W at *
  have hk : Kp w W := hW ▸ (Kp.refl w).alloc _
  have hS : W.cell? ⟨w.heap.size, 0, none⟩ = some (.bool x.neg) ∧ W.cell? ⟨w.heap.size, 1, none⟩ = some (.slice x.a x.xs.length x.c) ∧ W.cell? ⟨w.heap.size, 2, none⟩ = some (.int .i64 x.e) := by rw [← hW]; simp
  clear hW
  go_cut [12] from 5 (fun s wx => s = .bool false ∧ Kp W wx)
  case first =>
    go_wp2_with fail
    refine (awake3_ok _ (hT.kp hk)).mono ?_
    rintro e w1 ⟨rfl, k1⟩
    go_wp2_with fail
    go_meet
    case rel => exact ⟨rfl, k1⟩
  case rest =>
    obtain ⟨rfl, k1⟩ := hcut
    have hS1 := keep3 k1 hS
    have h1 := hk.trans k1
    clear hk k1 hS
    obtain ⟨W1, hW1⟩ : ∃ W1 : World, W1 = wc := ⟨_, rfl⟩
    subst hW1
    go_upto_region 3 with fail
    go_cut [20] from 5 (fun s wx => s = .bool (outB x) ∧ Kp W1 wx)
    case first =>
      obtain ⟨s0, s1, s2⟩ := hS1
      have hrow := rowD_one W1 x (hx.kp h1) 24
      have ka := (Kp.refl W1).alloc (.cells #[.bool x.neg, .slice x.a x.xs.length x.c, .int .i64 x.e] 24)
      go_wp2_with fail
      refine (great_any _ [x] 1 _ hrow (by simp)).mono ?_
      rintro e w2 ⟨rfl, k2⟩
      have h2 := ka.trans k2
      have u0 := h2.cell s0
      have u1 := h2.cell s1
      have u2 := h2.cell s2
      clear k2 hrow ka
      cases e0 : [x].any lng2 with
      | true =>
        have Hg := Lib.hid (show outB x = true by unfold outB; rw [e0]; rfl)
        clear e0 s0 s1 s2 u0 u1 u2
        go_wp2_with fail
        go_meet
        case rel => exact ⟨by rw [Hg.out], h2⟩
      | false =>
        go_wp2_with fail
        refine (Valid_raw x _ (hx.kp (h1.trans h2))).mono ?_
        rintro e w3 ⟨rfl, k3⟩
        have h3 := h2.trans k3
        have Hg := Lib.hid (show outB x = !x.vl by unfold outB; rw [e0]; rfl)
        clear s0 s1 s2 u0 u1 u2 k3 e0
        go_wp2_with fail
        go_meet
        case rel => exact ⟨by rw [Hg.out], h3⟩
    case rest =>
      obtain ⟨rfl, k2⟩ := hcut
      have hS2 := keep3 k2 hS1
      have h2 := h1.trans k2
      clear h1 k2 hS1
      obtain ⟨W2, hW2⟩ : ∃ W2 : World, W2 = wc := ⟨_, rfl⟩
      subst hW2
      cases ho : outB x with
      | true =>
        clear ho hS2
        go_wp2_with fail
        go_ret
        exact ⟨rfl, h2⟩
      | false =>
        have hv : x.vl = true := by
          unfold outB at ho
          rw [Bool.or_eq_false_iff] at ho
          simpa using ho.2
        have hX : x.ok W2 := ⟨hx.kp h2, hv⟩
        have hT2 := hT.kp h2
        clear ho hv
        go_wp2_with fail
        refine (Down_rd x p _ hX.1 hT2).mono ?_
        rintro e w5 ⟨z1, rfl, rz1, dz1, vz1, k5⟩
        have ka := (Kp.refl w5).alloc (.cells #[.bool z1.neg, .slice z1.a z1.xs.length z1.c, .int .i64 z1.e] 24)
        have k5a := k5.trans ka
        have oz1 : z1.ok w5 := ⟨rz1, vz1 (rndB_ok x p false)⟩
        have oz1a := oz1.kp ka
        have D1 := Lib.hid dz1
        have hS5 := keep3 k5a hS2
        have hX5 := hX.kp k5a
        have h5 := h2.trans k5a
        have hT5 := hT2.kp k5a
        clear hS2 hX h2 hT2 k5 k5a rz1 dz1 vz1 oz1
        go_wp2_with fail
        generalize hA5 : w5.alloc _ = A5 at *
        have hZ1 : A5.cell? ⟨w5.heap.size, 0, none⟩ = some (.bool z1.neg) ∧ A5.cell? ⟨w5.heap.size, 1, none⟩ = some (.slice z1.a z1.xs.length z1.c) ∧ A5.cell? ⟨w5.heap.size, 2, none⟩ = some (.int .i64 z1.e) := by rw [← hA5]; simp
        clear hA5 ka
        refine (Up_rd x p _ hX5.1 hT5).mono ?_
        rintro e w6 ⟨z2, rfl, rz2, dz2, vz2, k6⟩
        have ka := (Kp.refl w6).alloc (.cells #[.bool z2.neg, .slice z2.a z2.xs.length z2.c, .int .i64 z2.e] 24)
        have k6a := k6.trans ka
        have oz2 : z2.ok w6 := ⟨rz2, vz2 (rndB_ok x p true)⟩
        have oz2b := oz2.kp ka
        have D2 := Lib.hid dz2
        have oz1b := oz1a.kp k6a
        have hS6 := keep3 k6a hS5
        have hZ1b := keep3 k6a hZ1
        have hX6 := hX5.kp k6a
        have h6 := h5.trans k6a
        have hT6 := hT5.kp k6a
        clear hS5 hX5 h5 hT5 k6 k6a rz2 dz2 vz2 oz2 hZ1 oz1a
        go_wp2_with fail
        generalize hA6 : w6.alloc _ = A6 at *
        have hZ2 : A6.cell? ⟨w6.heap.size, 0, none⟩ = some (.bool z2.neg) ∧ A6.cell? ⟨w6.heap.size, 1, none⟩ = some (.slice z2.a z2.xs.length z2.c) ∧ A6.cell? ⟨w6.heap.size, 2, none⟩ = some (.int .i64 z2.e) := by rw [← hA6]; simp
        clear hA6 ka
        refine (Near_any x p _ hX6.1 hT6).mono ?_
        rintro e w7 ⟨z3, rfl, rz3, dz3, vz3, k7⟩
        have ka := (Kp.refl w7).alloc (.cells #[.bool z3.neg, .slice z3.a z3.xs.length z3.c, .int .i64 z3.e] 24)
        have k7a := k7.trans ka
        have rz3a := rz3.kp ka
        have D3 := Lib.hid dz3
        have V3 := Lib.hid vz3
        have oz1c := oz1b.kp k7a
        have oz2c := oz2b.kp k7a
        have hS7 := keep3 k7a hS6
        have hZ1c := keep3 k7a hZ1b
        have hZ2c := keep3 k7a hZ2
        have hX7 := hX6.kp k7a
        have h7 := h6.trans k7a
        clear hS6 hX6 h6 hT6 k7 k7a rz3 dz3 vz3 hZ1b hZ2 oz1b oz2b
        by_cases hc1 : (rndB x p false).2 = 0
        · by_cases hc2 : (rndB x p true).2 = 0
          · obtain ⟨bb, hbb⟩ := near_good hc1 hc2
            obtain ⟨l1, l2, l3, l4, l5⟩ := law_between hX7 oz1c oz2c hc1 hc2 D1.out D2.out
            have L1 := Lib.hid l1
            have L2 := Lib.hid l2
            have L3 := Lib.hid l3
            have L4 := Lib.hid l4
            have L5 := Lib.hid l5
            have hn : (nearR x p).2 = 0 := by rw [hbb]
            have D4 := Lib.hid (show z3.dy = if bb then z2.dy else z1.dy by rw [D3.out, hbb, D1.out, D2.out])
            have oz3 : z3.ok (w7.alloc (.cells #[.bool z3.neg, .slice z3.a z3.xs.length z3.c, .int .i64 z3.e] 24)) := ⟨rz3a, V3.out (by rw [hbb]; cases bb <;> exact rndB_ok _ _ _)⟩
            rw [hc1, hc2, hn]
            clear hc1 hc2 hn hbb l1 l2 l3 l4 l5 D1 D2 D3 V3 rz3a
            go_wp2_with fail
            generalize hA7 : w7.alloc _ = A7 at *
            have hZ3 : A7.cell? ⟨w7.heap.size, 0, none⟩ = some (.bool z3.neg) ∧ A7.cell? ⟨w7.heap.size, 1, none⟩ = some (.slice z3.a z3.xs.length z3.c) ∧ A7.cell? ⟨w7.heap.size, 2, none⟩ = some (.int .i64 z3.e) := by rw [← hA7]; simp
            clear hA7 ka
            have h7d := h7.drew
            have hZ3d := keep3 (Kp.refl A7).drew hZ3
            have hZ1d := keep3 (Kp.refl A7).drew hZ1c
            have hZ2d := keep3 (Kp.refl A7).drew hZ2c
            have hSS := keepS9 (Kp.refl A7).drew ⟨hZ1c.1, hZ1c.2.1, hZ1c.2.2, hZ2c.1, hZ2c.2.1, hZ2c.2.2, hS7⟩
            have o1 := Lib.hid oz1c.drew
            have o2 := Lib.hid oz2c.drew
            have o3 := Lib.hid oz3.drew
            have R1 := Lib.hid oz1c.drew.1
            have R2 := Lib.hid oz2c.drew.1
            have RX := Lib.hid hX7.drew.1
            have v1 := Lib.hid oz1c.2
            have v2 := Lib.hid oz2c.2
            have vx := Lib.hid hX7.2
            have HZ1 := Lib.hid hZ1d
            have HZ2 := Lib.hid hZ2d
            have HZ3 := Lib.hid hZ3d
            clear h7 hZ3 hZ1c hZ2c hS7 oz1c oz2c oz3 hX7 hZ3d hZ1d hZ2d
            go_region_held3 (fun w' => w'.cell? ⟨w5.heap.size, 0, none⟩ = some (.bool z1.neg) ∧ w'.cell? ⟨w5.heap.size, 1, none⟩ = some (.slice z1.a z1.xs.length z1.c) ∧ w'.cell? ⟨w5.heap.size, 2, none⟩ = some (.int .i64 z1.e) ∧ w'.cell? ⟨w6.heap.size, 0, none⟩ = some (.bool z2.neg) ∧ w'.cell? ⟨w6.heap.size, 1, none⟩ = some (.slice z2.a z2.xs.length z2.c) ∧ w'.cell? ⟨w6.heap.size, 2, none⟩ = some (.int .i64 z2.e) ∧ w'.cell? ⟨w.heap.size, 0, none⟩ = some (.bool x.neg) ∧ w'.cell? ⟨w.heap.size, 1, none⟩ = some (.slice x.a x.xs.length x.c) ∧ w'.cell? ⟨w.heap.size, 2, none⟩ = some (.int .i64 x.e)) (first | with_reducible assumption | with_reducible exact keepS9 (by assumption) (by assumption))
              (first
                | (go_at_call 16; (with_reducible refine (Is_any z1 p _ R1.out).mono ?_); rw [L1.out]; rintro e q1 ⟨rfl, j1⟩)
                | (go_at_call 16; (with_reducible refine (Is_any z2 p _ (R2.out.kp j1)).mono ?_); rw [L2.out]; rintro e q2 ⟨rfl, j2⟩)
                | (go_at_call 10; (with_reducible refine (Cmp_raw z1 x _ ((R1.out.kp j1).kp j2) ((RX.out.kp j1).kp j2) v1.out vx.out).mono ?_); rintro e q3 ⟨rfl, j3⟩
                   have g1 : decide ((0 : Int) < cmpZ z1.iv x.iv) = false := decide_eq_false (by have := cmp_le L3.out; omega))
                | (go_at_call 10; (with_reducible refine (Cmp_raw x z2 _ (((RX.out.kp j1).kp j2).kp j3) (((R2.out.kp j1).kp j2).kp j3) vx.out v2.out).mono ?_); rintro e q4 ⟨rfl, j4⟩
                   have g2 : decide ((0 : Int) < cmpZ x.iv z2.iv) = false := decide_eq_false (by have := cmp_le L4.out; omega))
                | (go_at_call 10; (with_reducible refine (Cmp_raw z1 z2 _ ((((R1.out.kp j1).kp j2).kp j3).kp j4) ((((R2.out.kp j1).kp j2).kp j3).kp j4) v1.out v2.out).mono ?_); rintro e q5 ⟨rfl, j5⟩
                   have g3 := L5.out)
                | (go_at_call 16; (with_reducible refine (Is_any x p _ (((((RX.out.kp j1).kp j2).kp j3).kp j4).kp j5)).mono ?_); rintro e q6 ⟨rfl, j6⟩
                   have g4 : (isB x p != isB x p) = false := by simp)
                | fail)
            have jj := ((((j1.trans j2).trans j3).trans j4).trans j5).trans j6
            have h8 := h7d.trans jj
            obtain ⟨a0, a1, a2⟩ := keep3 jj HZ3.out
            obtain ⟨b0, b1, b2⟩ := keep3 jj HZ1.out
            have hd2 := keep3 jj HZ2.out
            have r3 := (o3.out.kp jj).1
            have r1 := (o1.out.kp jj).1
            have r2 := (o2.out.kp jj).1
            clear hSS h7d j1 j2 j3 j4 j5 j6 R1 R2 RX
            go_wp2_with fail
            refine (same_any z3 z1 _ r3 r1).mono ?_
            rintro e w9 ⟨rfl, k9⟩
            have h9 := h8.trans k9
            cases bb with
            | false =>
              have hs := sameR_dy o3.out o1.out D4.out
              rw [hs]
              clear hs a0 a1 a2 b0 b1 b2 hd2
              go_wp2_with fail
              go_ret
              exact ⟨rfl, h9⟩
            | true =>
              have Hs := Lib.hid (sameR_dy o3.out o2.out D4.out)
              cases hq : sameR z3 z1 with
              | true =>
                clear hq a0 a1 a2 b0 b1 b2 hd2
                go_wp2_with fail
                go_ret
                exact ⟨rfl, h9⟩
              | false =>
                obtain ⟨c0, c1, c2⟩ := keep3 k9 (And.intro a0 (And.intro a1 a2))
                obtain ⟨d0, d1, d2⟩ := keep3 k9 hd2
                clear hq a0 a1 a2 b0 b1 b2 hd2
                go_wp2_with fail
                refine (same_any z3 z2 _ (r3.kp k9) (r2.kp k9)).mono ?_
                rw [Hs.out]
                rintro e w10 ⟨rfl, k10⟩
                clear c0 c1 c2 d0 d1 d2
                go_wp2_with fail
                go_ret
                exact ⟨rfl, h9.trans k10⟩
          · have C := Lib.hid (near_bad (x := x) (p := p) (.inr hc2))
            have hc3 : ((rndB x p true).2 != 0) = true := by simpa using hc2
            have Hi := Lib.hid (show isB x p = false by
              cases hb : isB x p with
              | false => rfl
              | true => exact absurd (isB_code hX7 hb true) hc2)
            rw [hc1]
            clear hc1 hc2
            have hn : ((nearR x p).2 != 0) = true := by simpa using C.out
            obtain ⟨u0, u1, u2⟩ := hS7
            clear hZ1c hZ2c
            go_wp2_with fail
            refine (Is_any x p _ hX7.1).mono ?_
            rw [Hi.out]
            rintro e w8 ⟨rfl, k8⟩
            clear u0 u1 u2
            go_wp2_with fail
            go_ret
            exact ⟨rfl, h7.trans k8⟩
        · have C := Lib.hid (near_bad (x := x) (p := p) (.inl hc1))
          have hc3 : ((rndB x p false).2 != 0) = true := by simpa using hc1
          have Hi := Lib.hid (show isB x p = false by
            cases hb : isB x p with
            | false => rfl
            | true => exact absurd (isB_code hX7 hb false) hc1)
          clear hc1
          have hn : ((nearR x p).2 != 0) = true := by simpa using C.out
          obtain ⟨u0, u1, u2⟩ := hS7
          clear hZ1c hZ2c
          go_wp2_with fail
          refine (Is_any x p _ hX7.1).mono ?_
          rw [Hi.out]
          rintro e w8 ⟨rfl, k8⟩
          clear u0 u1 u2
          go_wp2_with fail
          go_ret
          exact ⟨rfl, h7.trans k8⟩
end Go.Proofs.YtkkiinbgjjjcoaaDoor
