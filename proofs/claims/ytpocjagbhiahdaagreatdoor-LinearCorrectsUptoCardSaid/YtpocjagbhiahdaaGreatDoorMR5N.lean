/-
  Walks: the fifth reference's Mul.
-/
import Derived.Deep.CutRange
import Derived.Deep.LoopGhost
import Derived.Test.YtpocjagbhiahdaaGreatDoorMOpenN
import Derived.Test.YtpocjagbhiahdaaGreatDoorMR3C
import Derived.Test.YtpocjagbhiahdaaGreatDoorMLast
import Derived.Test.YtpocjagbhiahdaaGreatDoorMNrmM
namespace Go.Proofs.YtpocjagbhiahdaaGreatDoor
open Go.RowKit

theorem r3mul_ok (a b : RD) {p : Nat} (up : Bool) (h0 : 8 ≤ p) (h1 : p ≤ 512) (W : World) (ha : a.ok W) (hb : b.ok W) :
    Calls Tryz.prog 176 #[.agg #[.bool a.neg, .slice a.a a.xs.length a.c, .int .i64 a.e], .agg #[.bool b.neg, .slice b.a b.xs.length b.c, .int .i64 b.e], .int .i64 p, .bool up] W (NumE W (muP a.dy b.dy p up).1 (muP a.dy b.dy p up).2) := by
  have := r3mul_any a b (p : Int) up W ha.1 hb.1
  rwa [mulB_dy ha hb h0 h1 up] at this
theorem upd3b {g b : Nat} {w W : World} (h : Upd g w W) (hb : b ≠ g) {v0 v1 v2 : Value} (f : w.cell? ⟨b, 0, none⟩ = some v0 ∧ w.cell? ⟨b, 1, none⟩ = some v1 ∧ w.cell? ⟨b, 2, none⟩ = some v2) :
    W.cell? ⟨b, 0, none⟩ = some v0 ∧ W.cell? ⟨b, 1, none⟩ = some v1 ∧ W.cell? ⟨b, 2, none⟩ = some v2 := by
  obtain ⟨_, _, _, h4, _⟩ := h
  have key (i : Nat) : W.cell? ⟨b, i, none⟩ = w.cell? ⟨b, i, none⟩ := h4 _ hb
  simp only [key]
  exact f
theorem HasD.upd {w0 w W : World} {g b : Nat} {z : RD} {d : Dy} (h : HasD w0 w b z d) (hb : b ≠ g) (U : Upd g w W) : (W.cell? ⟨b, 0, none⟩ = some (.bool z.neg) ∧ W.cell? ⟨b, 1, none⟩ = some (.slice z.a z.xs.length z.c) ∧ W.cell? ⟨b, 2, none⟩ = some (.int .i64 z.e)) ∧ z.ok W ∧ z.dy = d := ⟨upd3b U hb h.1, U.okD h.2.1, h.2.2.1⟩
theorem ends0 {k : Nat} (hk : k = 0) {L z1 lo : RD} (h : L = lessR z1 z1) : (k = 0 ∨ z1.iv < lo.iv → L.dy = z1.dy) ∧ (¬ (k = 0 ∨ z1.iv < lo.iv) → L.dy = lo.dy) :=
  ⟨fun _ => by rw [h]; unfold lessR; rw [if_pos (Int.le_refl _)], fun n => absurd (.inl hk) n⟩
theorem ends1 {k : Nat} (hk : k = 0) {U z2 hi : RD} (h : U = moreR z2 z2) : (k = 0 ∨ hi.iv < z2.iv → U.dy = z2.dy) ∧ (¬ (k = 0 ∨ hi.iv < z2.iv) → U.dy = hi.dy) :=
  ⟨fun _ => by rw [h]; unfold moreR; rw [if_pos (Int.le_refl _)], fun n => absurd (.inl hk) n⟩
theorem ends2 {k : Nat} (hk : ¬ k = 0) {L z1 lo : RD} (h : L = lessR lo z1) : (k = 0 ∨ z1.iv < lo.iv → L.dy = z1.dy) ∧ (¬ (k = 0 ∨ z1.iv < lo.iv) → L.dy = lo.dy) :=
  ⟨fun o => by rw [h]; unfold lessR; rw [if_neg (by have := o.resolve_left hk; omega)], fun n => by rw [h]; unfold lessR; rw [if_pos (by have : ¬ z1.iv < lo.iv := fun e => n (.inr e); omega)]⟩
theorem ends3 {k : Nat} (hk : ¬ k = 0) {U z2 hi : RD} (h : U = moreR hi z2) : (k = 0 ∨ hi.iv < z2.iv → U.dy = z2.dy) ∧ (¬ (k = 0 ∨ hi.iv < z2.iv) → U.dy = hi.dy) :=
  ⟨fun o => by rw [h]; unfold moreR; rw [if_neg (by have := o.resolve_left hk; omega)], fun n => by rw [h]; unfold moreR; rw [if_pos (by have : ¬ hi.iv < z2.iv := fun e => n (.inr e); omega)]⟩
theorem keep733 {w w' : World} (k : Kp w w') {p0 p1 p2 p3 p4 p5 p6 q0 q1 q2 r0 r1 r2 : Addr} {v0 v1 v2 v3 v4 v5 v6 u0 u1 u2 t0 t1 t2 : Value}
    (h : (w.cell? p0 = some v0 ∧ w.cell? p1 = some v1 ∧ w.cell? p2 = some v2 ∧ w.cell? p3 = some v3 ∧ w.cell? p4 = some v4 ∧ w.cell? p5 = some v5 ∧ w.cell? p6 = some v6) ∧ (w.cell? q0 = some u0 ∧ w.cell? q1 = some u1 ∧ w.cell? q2 = some u2) ∧ w.cell? r0 = some t0 ∧ w.cell? r1 = some t1 ∧ w.cell? r2 = some t2) :
    (w'.cell? p0 = some v0 ∧ w'.cell? p1 = some v1 ∧ w'.cell? p2 = some v2 ∧ w'.cell? p3 = some v3 ∧ w'.cell? p4 = some v4 ∧ w'.cell? p5 = some v5 ∧ w'.cell? p6 = some v6) ∧ (w'.cell? q0 = some u0 ∧ w'.cell? q1 = some u1 ∧ w'.cell? q2 = some u2) ∧ w'.cell? r0 = some t0 ∧ w'.cell? r1 = some t1 ∧ w'.cell? r2 = some t2 := ⟨keep7 k h.1, keep33 k h.2⟩
theorem set33o {w : World} {g b o : Nat} (n : b ≠ g) {v0 v1 v2 v3 v4 v5 x0 x1 x2 : Value}
    (h : (w.cell? ⟨b, o, none⟩ = some v0 ∧ w.cell? ⟨b, o + 1, none⟩ = some v1 ∧ w.cell? ⟨b, o + 2, none⟩ = some v2) ∧ w.cell? ⟨b, o + 3, none⟩ = some v3 ∧ w.cell? ⟨b, o + 4, none⟩ = some v4 ∧ w.cell? ⟨b, o + 5, none⟩ = some v5) :
    (fun W : World => (W.cell? ⟨b, o, none⟩ = some v0 ∧ W.cell? ⟨b, o + 1, none⟩ = some v1 ∧ W.cell? ⟨b, o + 2, none⟩ = some v2) ∧ W.cell? ⟨b, o + 3, none⟩ = some v3 ∧ W.cell? ⟨b, o + 4, none⟩ = some v4 ∧ W.cell? ⟨b, o + 5, none⟩ = some v5)
      (((w.setCell ⟨g, 0, none⟩ x0).setCell ⟨g, 1, none⟩ x1).setCell ⟨g, 2, none⟩ x2) := by
  have ne (i j : Nat) : (⟨g, i, none⟩ : Addr) ≠ ⟨b, j, none⟩ := fun e => n (by injection e with e1; exact e1.symm)
  have key (j : Nat) : (((w.setCell ⟨g, 0, none⟩ x0).setCell ⟨g, 1, none⟩ x1).setCell ⟨g, 2, none⟩ x2).cell? ⟨b, j, none⟩ = w.cell? ⟨b, j, none⟩ := by
    rw [cell_set_ne (ne 2 j), cell_set_ne (ne 1 j), cell_set_ne (ne 0 j)]
  simp only [key]
  exact h
set_option maxRecDepth 100000 in
set_option maxHeartbeats 8000000 in
theorem r5mul_any (x y : RI) (p : Nat) (w : World) (hx : x.rd w) (hy : y.rd w) (vx : x.vl = true) (vy : y.vl = true) (h0 : 8 ≤ p) (h1 : p ≤ 512) :
    Calls Tryz.prog 129 #[.agg #[.bool x.lo.neg, .slice x.lo.a x.lo.xs.length x.lo.c, .int .i64 x.lo.e, .bool x.hi.neg, .slice x.hi.a x.hi.xs.length x.hi.c, .int .i64 x.hi.e, .bool x.all], .agg #[.bool y.lo.neg, .slice y.lo.a y.lo.xs.length y.lo.c, .int .i64 y.lo.e, .bool y.hi.neg, .slice y.hi.a y.hi.xs.length y.hi.c, .int .i64 y.hi.e, .bool y.all], .int .i64 p] w (IvOut w (pMul x.pl y.pl p)) := by
  have Hp := Lib.hid (show preB (p : Int) = true from preB_iff.2 ⟨by omega, by omega⟩)
  go_enter Tryz.func129, Tryz.ntmps129
  go_wp2_with fail
  generalize hW : (((w.alloc _).alloc _).alloc _) = W at *
  have hk : Kp w W := hW ▸ (((Kp.refl w).alloc _).alloc _).alloc _
  have hS : (W.cell? ⟨w.heap.size, 0, none⟩ = some (.bool x.lo.neg) ∧ W.cell? ⟨w.heap.size, 1, none⟩ = some (.slice x.lo.a x.lo.xs.length x.lo.c) ∧ W.cell? ⟨w.heap.size, 2, none⟩ = some (.int .i64 x.lo.e) ∧ W.cell? ⟨w.heap.size, 3, none⟩ = some (.bool x.hi.neg) ∧ W.cell? ⟨w.heap.size, 4, none⟩ = some (.slice x.hi.a x.hi.xs.length x.hi.c) ∧ W.cell? ⟨w.heap.size, 5, none⟩ = some (.int .i64 x.hi.e) ∧ W.cell? ⟨w.heap.size, 6, none⟩ = some (.bool x.all)) ∧ W.cell? ⟨w.heap.size + 1, 0, none⟩ = some (.bool y.lo.neg) ∧ W.cell? ⟨w.heap.size + 1, 1, none⟩ = some (.slice y.lo.a y.lo.xs.length y.lo.c) ∧ W.cell? ⟨w.heap.size + 1, 2, none⟩ = some (.int .i64 y.lo.e) ∧ W.cell? ⟨w.heap.size + 1, 3, none⟩ = some (.bool y.hi.neg) ∧ W.cell? ⟨w.heap.size + 1, 4, none⟩ = some (.slice y.hi.a y.hi.xs.length y.hi.c) ∧ W.cell? ⟨w.heap.size + 1, 5, none⟩ = some (.int .i64 y.hi.e) ∧ W.cell? ⟨w.heap.size + 1, 6, none⟩ = some (.bool y.all) := by rw [← hW]; exact keep77 ((Kp.refl _).alloc _) (by simp)
  have hV : Var7 W (w.heap.size + 1 + 1) := by rw [← hW]; exact Var7.new2 _ _ _ _
  clear hW
  go_fit (r5prec_any (p : Int) _)
  rintro e w0 ⟨rfl, rfl⟩
  rw [Hp.out]
  obtain ⟨⟨s0, s1, s2, s3, s4, s5, s6⟩, t0, t1, t2, t3, t4, t5, t6⟩ := id hS
  go_wp2_with fail
  go_fit (r5known_any x _ (hx.kp hk))
  rintro e w1 ⟨rfl, hk1⟩
  have hS1 := keep77 hk1 hS
  have hV1 := hV.kp hk1
  have hk2 := (hk.trans hk1)
  have hx1 := hx.kp hk2
  have hy1 := hy.kp hk2
  have gx := goodI_vl vx
  have gy := goodI_vl vy
  clear hS hV hk hk1 s0 s1 s2 s3 s4 s5 s6 t0 t1 t2 t3 t4 t5 t6
  cases hax : x.all with
  | true =>
    have HP := Lib.hid (show pMul x.pl y.pl p = .whole by unfold pMul; rw [if_pos (by show (x.all || y.all) = true; rw [hax]; rfl)])
    have hg : goodI x = false := by rw [gx, hax]; rfl
    rw [hg]
    clear hg gx gy hS1
    go_wp2_with fail
    go_fit (r5Whole_any _)
    rintro e wz ⟨rfl, hkz⟩
    have hk4 := hk2.trans hkz
    obtain ⟨⟨q0, q1, q2, q3, q4, q5, q6⟩, f0, f1, f2, f3, f4, f5, f6⟩ := hV1.kp hkz
    go_wp2_with fail
    generalize hW9 : ((((((wz.setCell _ _).setCell _ _).setCell _ _).setCell _ _).setCell _ _).setCell _ _).setCell _ _ = W9
    obtain ⟨⟨s0, s1, s2, s3, s4, s5, s6⟩, hU⟩ := stored7 (show Box7 wz _ _ _ _ _ _ _ _ from ⟨q0, q1, q2, q3, q4, q5, q6⟩) (fun _ h => by cases h) (fun _ h => by cases h) (fun _ h => by cases h) (fun _ h => by cases h) (fun _ h => by cases h) (fun _ h => by cases h) (fun _ h => by cases h) _ _ _ _ _ _ _ hW9
    clear hW9 q0 q1 q2 q3 q4 q5 q6 f0 f1 f2 f3 f4 f5 f6
    refine bodyPost_ret (v := .agg #[.bool false, .slice none 0 0, .int .i64 0, .bool false, .slice none 0 0, .int .i64 0, .bool true]) (by simp [results, Tryz.results129, go_sem, s0, s1, s2, s3, s4, s5, s6]) rfl ?_
    rw [HP.out]
    exact ⟨wholeR, rfl, wholeR_rd _, rfl, rfl, hU.2.2.1 _ hk4 (by omega)⟩
  | false =>
  have hg : goodI x = true := by rw [gx, hax]; rfl
  rw [hg]
  clear hg gx
  obtain ⟨⟨s0, s1, s2, s3, s4, s5, s6⟩, t0, t1, t2, t3, t4, t5, t6⟩ := id hS1
  have Hax := Lib.hid hax
  clear hax
  go_wp2_with fail
  go_fit (r5known_any y _ hy1)
  rintro e w1b ⟨rfl, hk1⟩
  replace hS1 := keep77 hk1 hS1
  replace hV1 := hV1.kp hk1
  replace hk2 := (hk2.trans hk1)
  replace hx1 := hx1.kp hk1
  replace hy1 := hy1.kp hk1
  clear hk1 s0 s1 s2 s3 s4 s5 s6 t0 t1 t2 t3 t4 t5 t6
  have hax := Hax.out
  cases hay : y.all with
  | true =>
    have HP := Lib.hid (show pMul x.pl y.pl p = .whole by unfold pMul; rw [if_pos (by show (x.all || y.all) = true; rw [hay]; simp)])
    have hg : goodI y = false := by rw [gy, hay]; rfl
    rw [hg]
    clear hg gy hS1 hax
    go_wp2_with fail
    go_fit (r5Whole_any _)
    rintro e wz ⟨rfl, hkz⟩
    have hk4 := hk2.trans hkz
    obtain ⟨⟨q0, q1, q2, q3, q4, q5, q6⟩, f0, f1, f2, f3, f4, f5, f6⟩ := hV1.kp hkz
    go_wp2_with fail
    generalize hW9 : ((((((wz.setCell _ _).setCell _ _).setCell _ _).setCell _ _).setCell _ _).setCell _ _).setCell _ _ = W9
    obtain ⟨⟨s0, s1, s2, s3, s4, s5, s6⟩, hU⟩ := stored7 (show Box7 wz _ _ _ _ _ _ _ _ from ⟨q0, q1, q2, q3, q4, q5, q6⟩) (fun _ h => by cases h) (fun _ h => by cases h) (fun _ h => by cases h) (fun _ h => by cases h) (fun _ h => by cases h) (fun _ h => by cases h) (fun _ h => by cases h) _ _ _ _ _ _ _ hW9
    clear hW9 q0 q1 q2 q3 q4 q5 q6 f0 f1 f2 f3 f4 f5 f6
    refine bodyPost_ret (v := .agg #[.bool false, .slice none 0 0, .int .i64 0, .bool false, .slice none 0 0, .int .i64 0, .bool true]) (by simp [results, Tryz.results129, go_sem, s0, s1, s2, s3, s4, s5, s6]) rfl ?_
    rw [HP.out]
    exact ⟨wholeR, rfl, wholeR_rd _, rfl, rfl, hU.2.2.1 _ hk4 (by omega)⟩
  | false =>
  have hg : goodI y = true := by rw [gy, hay]; rfl
  rw [hg]
  clear hg gy
  have ox := Lib.hid (ok_of hx1 vx hax)
  have oy := Lib.hid (ok_of hy1 vy hay)
  obtain ⟨D, hD⟩ : ∃ D, D = fourP (opP p) (restP x y 0) none := ⟨_, rfl⟩
  have HD := Lib.hid hD
  have HP := Lib.hid (show pMul x.pl y.pl p = D by unfold pMul; rw [if_neg (by show ¬ (x.all || y.all) = true; rw [hax, hay]; decide), hD]; rfl)
  clear hax hay hD
  obtain ⟨⟨s0, s1, s2, s3, s4, s5, s6⟩, t0, t1, t2, t3, t4, t5, t6⟩ := id hS1
  have HV1 := Lib.hid hV1
  clear hV1
  go_wp2_with fail
  go_fit (r5ends_any x y _)
  rintro e w3 ⟨g, rfl, hP3, k3, hg⟩
  clear s0 s1 s2 s3 s4 s5 s6 t0 t1 t2 t3 t4 t5 t6 hS1
  go_upto_region 5 with fail
  have ka := (Kp.refl w3).alloc (.cells #[.bool false, .slice none 0 0, .int .i64 0, .bool false, .slice none 0 0, .int .i64 0, .bool false] 44)
  have hO : Var7 (w3.alloc (.cells #[.bool false, .slice none 0 0, .int .i64 0, .bool false, .slice none 0 0, .int .i64 0, .bool false] 44)) w3.heap.size := Var7.new _ _
  have hPA := Lib.hid hP3
  have HW3 := Lib.hid (And.intro k3 hg)
  have HW := Lib.hid (hk2.trans k3)
  have HVr := Lib.hid (HV1.out.kp k3)
  have OX := Lib.hid (ox.out.kp k3)
  have OY := Lib.hid (oy.out.kp k3)
  generalize hWA : w3.alloc _ = WA at *
  clear hWA k3 hg hP3 ox oy hx1 hy1 HV1
  go_wp2_with fail
  go_loopg [9] 4 (fun r v wr => ∃ (k : Nat) (lo hi : RD), k + r = 4 ∧ v = .int .i64 k ∧ Kp w3 wr ∧ (Box7 wr w3.heap.size (.bool lo.neg) (.slice lo.a lo.xs.length lo.c) (.int .i64 lo.e) (.bool hi.neg) (.slice hi.a hi.xs.length hi.c) (.int .i64 hi.e) (.bool false) ∧ Frz wr w3.heap.size) ∧ (lo.ok wr ∧ hi.ok wr ∧ lo.iv ≤ hi.iv) ∧ fourP (opP p) (restP x y k) (accP k lo hi) = D)
  case atStart => exact ⟨0, rdZero, rdZero, rfl, rfl, ka, hO, ⟨⟨rdZero_rd _, rdZero_vl⟩, ⟨rdZero_rd _, rdZero_vl⟩, Int.le_refl _⟩, HD.out.symm⟩
  case round =>
  obtain ⟨k, lo, hi, hkr, rfl, hkw, hB, hok, hF⟩ := hrel
  clear hO ka
  have HF := Lib.hid hF
  have HO := Lib.hid hok
  clear hF hok
  by_cases hlt : k < 4
  rotate_left
  · obtain rfl : k = 4 := by omega
    have HE := Lib.hid (show D = ⟨lo.dy, hi.dy, false⟩ from HF.out.symm.trans four_end)
    obtain ⟨q0, q1, q2, q3, q4, q5, q6⟩ := id hB.1
    obtain ⟨⟨r0, r1, r2, r3, r4, r5, r6⟩, f0, f1, f2, f3, f4, f5, f6⟩ := HVr.out.kp hkw
    have hkk := HW.out.trans hkw
    clear hkw hB
    go_wp2_with fail
    generalize hW9 : ((((((wr.setCell _ _).setCell _ _).setCell _ _).setCell _ _).setCell _ _).setCell _ _).setCell _ _ = W9
    obtain ⟨⟨s0, s1, s2, s3, s4, s5, s6⟩, hU⟩ := stored7 (show Box7 wr _ _ _ _ _ _ _ _ from ⟨r0, r1, r2, r3, r4, r5, r6⟩) (fun _ h => by cases h) (fun _ h => by cases h) (fun _ h => by cases h) (fun _ h => by cases h) (fun _ h => by cases h) (fun _ h => by cases h) (fun _ h => by cases h) _ _ _ _ _ _ _ hW9
    clear hW9 q0 q1 q2 q3 q4 q5 q6 r0 r1 r2 r3 r4 r5 r6 f0 f1 f2 f3 f4 f5 f6
    refine bodyPost_ret (v := .agg #[.bool (RI.mk lo hi false).lo.neg, .slice (RI.mk lo hi false).lo.a (RI.mk lo hi false).lo.xs.length (RI.mk lo hi false).lo.c, .int .i64 (RI.mk lo hi false).lo.e, .bool (RI.mk lo hi false).hi.neg, .slice (RI.mk lo hi false).hi.a (RI.mk lo hi false).hi.xs.length (RI.mk lo hi false).hi.c, .int .i64 (RI.mk lo hi false).hi.e, .bool (RI.mk lo hi false).all]) (by simp [results, Tryz.results129, go_sem, s0, s1, s2, s3, s4, s5, s6]) rfl ?_
    rw [HP.out, HE.out]
    exact ⟨⟨lo, hi, false⟩, rfl, hU.rdI ⟨HO.out.1.1, HO.out.2.1.1⟩, rfl, vl_mk2 HO.out.1.2 HO.out.2.1.2 HO.out.2.2, hU.2.2.1 _ hkk (by omega)⟩
  obtain ⟨q, hq⟩ : ∃ q, (pairR x y)[k]? = some q := ⟨_, List.getElem?_eq_getElem (show k < (pairR x y).length from hlt)⟩
  have Hq := Lib.hid hq
  have OQ := Lib.hid (pairR_ok (OX.out.kp hkw) (OY.out.kp hkw) hq)
  have hPC := (hPA.out.kp hkw) k q hq
  obtain ⟨a, b⟩ := q
  have hi1 : (0 : Int) ≤ (k : Int) := by omega
  have hi2 : (k : Int) < 4 := by omega
  have HBr := Lib.hid hB
  clear hq
  go_upto_region 8 with fail
  go_cut [10, 11] from 35 to 49 (fun s t wx => ∃ (b1 : Nat) (z : RD), s = .pointer (some ⟨b1, 0, none⟩) ∧ t = .int .i64 (muP a.dy b.dy p false).2 ∧ HasD wr wx b1 z (muP a.dy b.dy p false).1)
  case first =>
    have hb0 := World.block_lt_of_cell? wr _ hPC.1.1
    have kd := Lib.hid (Kp.refl wr).drew
    have hSd := keep33 kd.out hPC
    have HS0 := Lib.hid hPC
    have KZ := Lib.hid (show Kp wr (wr.alloc (.cells #[.bool false, .slice none 0 0, .int .i64 0] 42)).drew from kd.out.trans ((Kp.refl wr.drew).alloc _))
    have HSZ := Lib.hid (keep33 KZ.out hPC)
    have BZ := Lib.hid (show Box3 (wr.alloc (.cells #[.bool false, .slice none 0 0, .int .i64 0] 42)).drew wr.heap.size _ _ _ from Box3.new wr.drew _ _ _ _)
    have n1 : g ≠ wr.heap.size := Nat.ne_of_lt hb0
    clear hPC hB hb0
    go_region_held3 (fun w' => (w'.cell? ⟨g, k * 6, none⟩ = some (.bool a.neg) ∧ w'.cell? ⟨g, k * 6 + 1, none⟩ = some (.slice a.a a.xs.length a.c) ∧ w'.cell? ⟨g, k * 6 + 2, none⟩ = some (.int .i64 a.e)) ∧ w'.cell? ⟨g, k * 6 + 3, none⟩ = some (.bool b.neg) ∧ w'.cell? ⟨g, k * 6 + 4, none⟩ = some (.slice b.a b.xs.length b.c) ∧ w'.cell? ⟨g, k * 6 + 5, none⟩ = some (.int .i64 b.e)) (first | with_reducible assumption | with_reducible exact keep33 (by assumption) (by assumption) | with_reducible exact keep33 ((Kp.refl _).alloc _) (by assumption) | with_reducible exact set33o (by assumption) (by assumption) | with_reducible exact HSZ.out | fail)
      (first
        | ((with_reducible refine (r3mul_ok a b false h0 h1 _ (OQ.out.1.kp kd.out) (OQ.out.2.kp kd.out)).mono ?_); rintro e v1 ⟨z1, rfl, r1, d1, q1, j1⟩
           have KJ := Lib.hid (kd.out.trans j1)
           have hS1 := keep33 KJ.out HS0.out
           have O1 := Lib.hid (And.intro (show z1.ok v1 from ⟨r1, q1 (muP_ok a.dy b.dy h0 h1 false)⟩) d1)
           clear r1 d1 q1)
        | ((with_reducible refine (r3mul_ok a b false h0 h1 _ (OQ.out.1.kp KZ.out) (OQ.out.2.kp KZ.out)).mono ?_); rintro e v1 ⟨z1, rfl, r1, d1, q1, j1⟩
           have KJ := Lib.hid (KZ.out.trans j1)
           have BV := BZ.out.kp j1
           have O1 := Lib.hid (And.intro (show z1.ok v1 from ⟨r1, q1 (muP_ok a.dy b.dy h0 h1 false)⟩) d1)
           clear r1 d1 q1
           obtain ⟨q0, q1, q2, f0, f1, f2⟩ := id BV)
        | fail)
    all_goals
      go_wp2_with fail
      go_meet
      case rel => first
        | exact ⟨_, z1, rfl, rfl, hasD_store BV (fun _ h => by cases h) (fun _ h => by cases h) (fun _ h => by cases h) O1.out.1 O1.out.2 KJ.out (Nat.le_refl _)⟩
        | exact ⟨_, z1, rfl, rfl, hasD_alloc O1.out.1 O1.out.2 KJ.out _⟩
  case rest =>
  obtain ⟨b1, z1, rfl, rfl, hD1⟩ := hcut
  obtain ⟨W8, hW8⟩ : ∃ x : World, x = wc := ⟨_, rfl⟩
  subst hW8
  have HK8 := Lib.hid hD1.2.2.2.1
  have HB8 := Lib.hid (And.intro (hB.1.kp HK8.out) (hB.2.kp hB.1 HK8.out))
  have hPC2 := keep33 HK8.out hPC
  have OQ2 := Lib.hid (And.intro (OQ.out.1.kp HK8.out) (OQ.out.2.kp HK8.out))
  have HD1 := Lib.hid hD1
  have HB1 := Lib.hid (show b1 < W8.heap.size from World.block_lt_of_cell? W8 _ hD1.1.1)
  clear hB hPC OQ hD1
  go_upto_region 9 with fail
  go_cut [12, 13] from 50 to 64 (fun s t wx => ∃ (b1 : Nat) (z : RD), s = .pointer (some ⟨b1, 0, none⟩) ∧ t = .int .i64 (muP a.dy b.dy p true).2 ∧ HasD W8 wx b1 z (muP a.dy b.dy p true).1)
  case first =>
    have hb0 := World.block_lt_of_cell? W8 _ hPC2.1.1
    have kd := Lib.hid (Kp.refl W8).drew
    have hSd := keep33 kd.out hPC2
    have HS0 := Lib.hid hPC2
    have KZ := Lib.hid (show Kp W8 (W8.alloc (.cells #[.bool false, .slice none 0 0, .int .i64 0] 42)).drew from kd.out.trans ((Kp.refl W8.drew).alloc _))
    have HSZ := Lib.hid (keep33 KZ.out hPC2)
    have BZ := Lib.hid (show Box3 (W8.alloc (.cells #[.bool false, .slice none 0 0, .int .i64 0] 42)).drew W8.heap.size _ _ _ from Box3.new W8.drew _ _ _ _)
    have n1 : g ≠ W8.heap.size := Nat.ne_of_lt hb0
    clear hPC2 hb0
    go_region_held3 (fun w' => (w'.cell? ⟨g, k * 6, none⟩ = some (.bool a.neg) ∧ w'.cell? ⟨g, k * 6 + 1, none⟩ = some (.slice a.a a.xs.length a.c) ∧ w'.cell? ⟨g, k * 6 + 2, none⟩ = some (.int .i64 a.e)) ∧ w'.cell? ⟨g, k * 6 + 3, none⟩ = some (.bool b.neg) ∧ w'.cell? ⟨g, k * 6 + 4, none⟩ = some (.slice b.a b.xs.length b.c) ∧ w'.cell? ⟨g, k * 6 + 5, none⟩ = some (.int .i64 b.e)) (first | with_reducible assumption | with_reducible exact keep33 (by assumption) (by assumption) | with_reducible exact keep33 ((Kp.refl _).alloc _) (by assumption) | with_reducible exact set33o (by assumption) (by assumption) | with_reducible exact HSZ.out | fail)
      (first
        | ((with_reducible refine (r3mul_ok a b true h0 h1 _ (OQ2.out.1.kp kd.out) (OQ2.out.2.kp kd.out)).mono ?_); rintro e v1 ⟨z1, rfl, r1, d1, q1, j1⟩
           have KJ := Lib.hid (kd.out.trans j1)
           have hS1 := keep33 KJ.out HS0.out
           have O1 := Lib.hid (And.intro (show z1.ok v1 from ⟨r1, q1 (muP_ok a.dy b.dy h0 h1 true)⟩) d1)
           clear r1 d1 q1)
        | ((with_reducible refine (r3mul_ok a b true h0 h1 _ (OQ2.out.1.kp KZ.out) (OQ2.out.2.kp KZ.out)).mono ?_); rintro e v1 ⟨z1, rfl, r1, d1, q1, j1⟩
           have KJ := Lib.hid (KZ.out.trans j1)
           have BV := BZ.out.kp j1
           have O1 := Lib.hid (And.intro (show z1.ok v1 from ⟨r1, q1 (muP_ok a.dy b.dy h0 h1 true)⟩) d1)
           clear r1 d1 q1
           obtain ⟨q0, q1, q2, f0, f1, f2⟩ := id BV)
        | fail)
    all_goals
      go_wp2_with fail
      go_meet
      case rel => first
        | exact ⟨_, z1, rfl, rfl, hasD_store BV (fun _ h => by cases h) (fun _ h => by cases h) (fun _ h => by cases h) O1.out.1 O1.out.2 KJ.out (Nat.le_refl _)⟩
        | exact ⟨_, z1, rfl, rfl, hasD_alloc O1.out.1 O1.out.2 KJ.out _⟩
  case rest =>
  obtain ⟨b2, z2, rfl, rfl, hD2⟩ := hcut
  obtain ⟨W9, hW9⟩ : ∃ x : World, x = wc := ⟨_, rfl⟩
  subst hW9
  have HK9 := Lib.hid (HK8.out.trans hD2.2.2.2.1)
  have HB9 := Lib.hid (And.intro (HB8.out.1.kp hD2.2.2.2.1) (HB8.out.2.kp HB8.out.1 hD2.2.2.2.1))
  have HD3 := Lib.hid (HD1.out.kp hD2.2.2.2.1)
  have HD2 := Lib.hid hD2
  have HG2 := Lib.hid (show b1 ≠ b2 ∧ b1 ≠ w3.heap.size ∧ b2 ≠ w3.heap.size from by
    have e1 := HB1.out
    have e2 := hD2.2.2.2.2
    have e3 : w3.heap.size < wr.heap.size := World.block_lt_of_cell? wr _ HBr.out.1.1
    have e4 := HD1.out.2.2.2.2
    have e5 := HK8.out.size
    omega)
  clear hPC2 OQ2 hD2 HD1 HB8 HK8 HB1
  by_cases hL : (muP a.dy b.dy p false).2 = 0
  rotate_left
  · have HE := Lib.hid (show D = .whole from HF.out.symm.trans (four_err Hq.out (.inl hL)))
    have g1 : ((muP a.dy b.dy p false).2 != 0) = true := by rw [bne, beq_eq_false_iff_ne.2 hL]; rfl
    have g3 : ((muP a.dy b.dy p false).2 == 0) = false := beq_eq_false_iff_ne.2 hL
    have HK9b := Lib.hid (And.intro (HW.out.trans (hkw.trans HK9.out)) (hkw.trans HK9.out))
    clear hL HB9 HO  hkw
    go_wp2_with fail
    go_fit (r5Whole_any _)
    rintro e w9 ⟨rfl, k9⟩
    have k10 := HK9b.out.1.trans k9
    obtain ⟨⟨q0, q1, q2, q3, q4, q5, q6⟩, f0, f1, f2, f3, f4, f5, f6⟩ := HVr.out.kp (HK9b.out.2.trans k9)
    go_wp2_with fail
    generalize hW9 : ((((((w9.setCell _ _).setCell _ _).setCell _ _).setCell _ _).setCell _ _).setCell _ _).setCell _ _ = W9
    obtain ⟨⟨s0, s1, s2, s3, s4, s5, s6⟩, hU⟩ := stored7 (show Box7 w9 _ _ _ _ _ _ _ _ from ⟨q0, q1, q2, q3, q4, q5, q6⟩) (fun _ h => by cases h) (fun _ h => by cases h) (fun _ h => by cases h) (fun _ h => by cases h) (fun _ h => by cases h) (fun _ h => by cases h) (fun _ h => by cases h) _ _ _ _ _ _ _ hW9
    clear hW9 q0 q1 q2 q3 q4 q5 q6 f0 f1 f2 f3 f4 f5 f6
    refine bodyPost_ret (v := .agg #[.bool false, .slice none 0 0, .int .i64 0, .bool false, .slice none 0 0, .int .i64 0, .bool true]) (by simp [results, Tryz.results129, go_sem, s0, s1, s2, s3, s4, s5, s6]) rfl ?_
    rw [HP.out, HE.out]
    exact ⟨wholeR, rfl, wholeR_rd _, rfl, rfl, hU.2.2.1 _ k10 (by omega)⟩
  have HL := Lib.hid hL
  rw [hL]
  by_cases hH : (muP a.dy b.dy p true).2 = 0
  rotate_left
  · have HE := Lib.hid (show D = .whole from HF.out.symm.trans (four_err Hq.out (.inr hH)))
    have g1 : ((muP a.dy b.dy p true).2 != 0) = true := by rw [bne, beq_eq_false_iff_ne.2 hH]; rfl
    have g3 : ((muP a.dy b.dy p true).2 == 0) = false := beq_eq_false_iff_ne.2 hH
    have HK9b := Lib.hid (And.intro (HW.out.trans (hkw.trans HK9.out)) (hkw.trans HK9.out))
    clear hL hH HB9 HO  hkw
    go_wp2_with fail
    go_fit (r5Whole_any _)
    rintro e w9 ⟨rfl, k9⟩
    have k10 := HK9b.out.1.trans k9
    obtain ⟨⟨q0, q1, q2, q3, q4, q5, q6⟩, f0, f1, f2, f3, f4, f5, f6⟩ := HVr.out.kp (HK9b.out.2.trans k9)
    go_wp2_with fail
    generalize hW9 : ((((((w9.setCell _ _).setCell _ _).setCell _ _).setCell _ _).setCell _ _).setCell _ _).setCell _ _ = W9
    obtain ⟨⟨s0, s1, s2, s3, s4, s5, s6⟩, hU⟩ := stored7 (show Box7 w9 _ _ _ _ _ _ _ _ from ⟨q0, q1, q2, q3, q4, q5, q6⟩) (fun _ h => by cases h) (fun _ h => by cases h) (fun _ h => by cases h) (fun _ h => by cases h) (fun _ h => by cases h) (fun _ h => by cases h) (fun _ h => by cases h) _ _ _ _ _ _ _ hW9
    clear hW9 q0 q1 q2 q3 q4 q5 q6 f0 f1 f2 f3 f4 f5 f6
    refine bodyPost_ret (v := .agg #[.bool false, .slice none 0 0, .int .i64 0, .bool false, .slice none 0 0, .int .i64 0, .bool true]) (by simp [results, Tryz.results129, go_sem, s0, s1, s2, s3, s4, s5, s6]) rfl ?_
    rw [HP.out, HE.out]
    exact ⟨wholeR, rfl, wholeR_rd _, rfl, rfl, hU.2.2.1 _ k10 (by omega)⟩
  have HH := Lib.hid hH
  rw [hH]
  clear hL hH
  by_cases hk0 : k = 0
  rotate_left
  · have hz : ((k : Int) == 0) = false := beq_eq_false_iff_ne.2 (by omega)
    go_upto_region 14 with fail
    have HBX := HB9
    have HDX := Lib.hid (And.intro (show (W9.cell? ⟨b1, 0, none⟩ = some (.bool z1.neg) ∧ W9.cell? ⟨b1, 1, none⟩ = some (.slice z1.a z1.xs.length z1.c) ∧ W9.cell? ⟨b1, 2, none⟩ = some (.int .i64 z1.e)) ∧ z1.ok W9 ∧ z1.dy = (muP a.dy b.dy p false).1 from ⟨HD3.out.1, HD3.out.2.1, HD3.out.2.2.1⟩) (show (W9.cell? ⟨b2, 0, none⟩ = some (.bool z2.neg) ∧ W9.cell? ⟨b2, 1, none⟩ = some (.slice z2.a z2.xs.length z2.c) ∧ W9.cell? ⟨b2, 2, none⟩ = some (.int .i64 z2.e)) ∧ z2.ok W9 ∧ z2.dy = (muP a.dy b.dy p true).1 from ⟨HD2.out.1, HD2.out.2.1, HD2.out.2.2.1⟩))
    have HOX := Lib.hid (And.intro (HO.out.1.kp HK9.out) (And.intro (HO.out.2.1.kp HK9.out) HO.out.2.2))
    have HKW := Lib.hid (hkw.trans HK9.out)
    have HO2 := Lib.hid HO.out.2.2
    clear HB9  hkw HO
    have hS14 : (W9.cell? ⟨w3.heap.size, 0, none⟩ = some (.bool (RI.mk lo hi false).lo.neg) ∧ W9.cell? ⟨w3.heap.size, 1, none⟩ = some (.slice (RI.mk lo hi false).lo.a (RI.mk lo hi false).lo.xs.length (RI.mk lo hi false).lo.c) ∧ W9.cell? ⟨w3.heap.size, 2, none⟩ = some (.int .i64 (RI.mk lo hi false).lo.e) ∧ W9.cell? ⟨w3.heap.size, 3, none⟩ = some (.bool (RI.mk lo hi false).hi.neg) ∧ W9.cell? ⟨w3.heap.size, 4, none⟩ = some (.slice (RI.mk lo hi false).hi.a (RI.mk lo hi false).hi.xs.length (RI.mk lo hi false).hi.c) ∧ W9.cell? ⟨w3.heap.size, 5, none⟩ = some (.int .i64 (RI.mk lo hi false).hi.e) ∧ W9.cell? ⟨w3.heap.size, 6, none⟩ = some (.bool (RI.mk lo hi false).all)) ∧ (W9.cell? ⟨b1, 0, none⟩ = some (.bool z1.neg) ∧ W9.cell? ⟨b1, 1, none⟩ = some (.slice z1.a z1.xs.length z1.c) ∧ W9.cell? ⟨b1, 2, none⟩ = some (.int .i64 z1.e)) ∧ W9.cell? ⟨b2, 0, none⟩ = some (.bool z2.neg) ∧ W9.cell? ⟨b2, 1, none⟩ = some (.slice z2.a z2.xs.length z2.c) ∧ W9.cell? ⟨b2, 2, none⟩ = some (.int .i64 z2.e) := ⟨HBX.out.1, HDX.out.1.1, HDX.out.2.1⟩
    have kd := (Kp.refl W9).drew
    have hSd := keep733 kd hS14
    have HSd := Lib.hid hSd
    have HKd := Lib.hid kd
    clear hS14
    refine wp_region_last (S := fun w' => (w'.cell? ⟨w3.heap.size, 0, none⟩ = some (.bool (RI.mk lo hi false).lo.neg) ∧ w'.cell? ⟨w3.heap.size, 1, none⟩ = some (.slice (RI.mk lo hi false).lo.a (RI.mk lo hi false).lo.xs.length (RI.mk lo hi false).lo.c) ∧ w'.cell? ⟨w3.heap.size, 2, none⟩ = some (.int .i64 (RI.mk lo hi false).lo.e) ∧ w'.cell? ⟨w3.heap.size, 3, none⟩ = some (.bool (RI.mk lo hi false).hi.neg) ∧ w'.cell? ⟨w3.heap.size, 4, none⟩ = some (.slice (RI.mk lo hi false).hi.a (RI.mk lo hi false).hi.xs.length (RI.mk lo hi false).hi.c) ∧ w'.cell? ⟨w3.heap.size, 5, none⟩ = some (.int .i64 (RI.mk lo hi false).hi.e) ∧ w'.cell? ⟨w3.heap.size, 6, none⟩ = some (.bool (RI.mk lo hi false).all)) ∧ (w'.cell? ⟨b1, 0, none⟩ = some (.bool z1.neg) ∧ w'.cell? ⟨b1, 1, none⟩ = some (.slice z1.a z1.xs.length z1.c) ∧ w'.cell? ⟨b1, 2, none⟩ = some (.int .i64 z1.e)) ∧ w'.cell? ⟨b2, 0, none⟩ = some (.bool z2.neg) ∧ w'.cell? ⟨b2, 1, none⟩ = some (.slice z2.a z2.xs.length z2.c) ∧ w'.cell? ⟨b2, 2, none⟩ = some (.int .i64 z2.e)) 9 (by kernel_rfl) (by kernel_rfl) hSd (fun hHeld => ?_)
    clear hSd kd
    (refine wpAnyH_take (i := 0) (v := ?_) rfl (by kernel_rfl) (by kernel_rfl) (by kernel_rfl) (fun _ _ _ h => h) (Or.inl ⟨by rfl, ?_⟩) (by assumption) ?_; rotate_left; focus ((intro w hSw; (try dsimp only at hSw); go_simp); (try with_reducible rfl)); (try simp only [Act.put, List.setIfInBounds_toArray, List.set_cons_zero, List.set_cons_succ]))
    (refine wpAnyH_take (i := 1) (v := ?_) rfl (by kernel_rfl) (by kernel_rfl) (by kernel_rfl) (fun _ _ _ h => h) (Or.inl ⟨by rfl, ?_⟩) (by assumption) ?_; rotate_left; focus ((intro w hSw; (try dsimp only at hSw); go_simp); (try with_reducible rfl)); (try simp only [Act.put, List.setIfInBounds_toArray, List.set_cons_zero, List.set_cons_succ]))
    (refine wpAnyH_take (i := 2) (v := ?_) rfl (by kernel_rfl) (by kernel_rfl) (by kernel_rfl) (fun _ _ _ h => h) (Or.inl ⟨by rfl, ?_⟩) (by assumption) ?_; rotate_left; focus ((intro w hSw; (try dsimp only at hSw); go_simp); (try with_reducible rfl)); (try simp only [Act.put, List.setIfInBounds_toArray, List.set_cons_zero, List.set_cons_succ]))
    (refine wpAnyH_take (i := 4) (v := ?_) rfl (by kernel_rfl) (by kernel_rfl) (by kernel_rfl) (fun _ _ _ h => h) (Or.inl ⟨by rfl, ?_⟩) (by assumption) ?_; rotate_left; focus ((intro w hSw; (try dsimp only at hSw); go_simp); (try with_reducible rfl)); (try simp only [Act.put, List.setIfInBounds_toArray, List.set_cons_zero, List.set_cons_succ]))
    (refine wpAnyH_take (i := 5) (v := ?_) rfl (by kernel_rfl) (by kernel_rfl) (by kernel_rfl) (fun _ _ _ h => h) (Or.inl ⟨by rfl, ?_⟩) (by assumption) ?_; rotate_left; focus ((intro w hSw; (try dsimp only at hSw); go_simp); (try with_reducible rfl)); (try simp only [Act.put, List.setIfInBounds_toArray, List.set_cons_zero, List.set_cons_succ]))
    (refine wpAnyH_take (i := 6) (v := ?_) rfl (by kernel_rfl) (by kernel_rfl) (by kernel_rfl) (fun _ _ _ h => h) (Or.inl ⟨by rfl, ?_⟩) (by assumption) ?_; rotate_left; focus ((intro w hSw; (try dsimp only at hSw); go_simp); (try with_reducible rfl)); (try simp only [Act.put, List.setIfInBounds_toArray, List.set_cons_zero, List.set_cons_succ]))
    (refine wpAnyH_ready (rs := [3]) (by kernel_rfl) (by simp) ?_; refine AllReadyH.cons rfl (fun K hK => ?_) ?_; rotate_left; focus (exact AllReadyH.nil))
    (go_simp; go_fit (r5least_ok lo z1 _ (HOX.out.1.kp HKd.out) (HDX.out.1.2.1.kp HKd.out)); rintro e v1 ⟨rfl, j1⟩)
    (refine hK.out _ _ (keep733 j1 HSd.out) (fun hHeld => ?_); clear hK K)
    have HJ1 := Lib.hid (HKd.out.trans j1)
    (refine wpAnyH_ready (rs := [7]) (by kernel_rfl) (by simp) ?_; refine AllReadyH.cons rfl (fun K hK => ?_) ?_; rotate_left; focus (exact AllReadyH.nil))
    (go_simp; go_fit (r5most_ok hi z2 _ (HOX.out.2.1.kp HJ1.out) (HDX.out.2.2.1.kp HJ1.out)); rintro e v2 ⟨rfl, j2⟩)
    (refine hK.out _ _ (keep733 (j1.trans j2) HSd.out) (fun hHeld => ?_); clear hK K)
    have HJ2 := Lib.hid (HJ1.out.trans j2)
    (refine wpAnyH_take (i := 8) (v := ?_) rfl (by kernel_rfl) (by kernel_rfl) (by kernel_rfl) (fun _ _ _ h => h) (Or.inl ⟨by rfl, ?_⟩) (by assumption) ?_; rotate_left; focus ((intro w hSw; (try dsimp only at hSw); go_simp); (try with_reducible rfl)); (try simp only [Act.put, List.setIfInBounds_toArray, List.set_cons_zero, List.set_cons_succ]))
    refine wpAnyH_done (by kernel_rfl) ?_ _
    have hB2 := HBX.out.1.kp HJ2.out
    have hF2 := HBX.out.2.kp HBX.out.1 HJ2.out
    obtain ⟨q0, q1, q2, q3, q4, q5, q6⟩ := id hB2
    obtain ⟨f0, f1, f2, f3, f4, f5, f6⟩ := id hF2
    have HLO := Lib.hid (lessR_ok (HOX.out.1.kp HJ2.out) (HDX.out.1.2.1.kp HJ2.out))
    have HHI := Lib.hid (moreR_ok (HOX.out.2.1.kp HJ2.out) (HDX.out.2.2.1.kp HJ2.out))
    have HD1 := Lib.hid HDX.out.1.2.2
    have HD2 := Lib.hid HDX.out.2.2.2
    have HKX := Lib.hid (HKW.out.trans HJ2.out)
    obtain ⟨L, hL⟩ : ∃ L, L = lessR lo z1 := ⟨_, rfl⟩
    obtain ⟨U, hU⟩ : ∃ U, U = moreR hi z2 := ⟨_, rfl⟩
    have HLU := Lib.hid (And.intro hL hU)
    rw [← hL] at HLO ⊢
    rw [← hU] at HHI ⊢
    clear hL hU hHeld j1 j2 HJ1 HSd HKd HBX HDX HOX
    refine LastQ_run rfl (fun K hK => ?_)
    go_simp
    refine hK.out _ _ ?_
    clear hK K
    generalize hWy : ((((((v2.setCell _ _).setCell _ _).setCell _ _).setCell _ _).setCell _ _).setCell _ _).setCell _ _ = WY
    obtain ⟨hBY, hUY⟩ := stored7 hB2 (fun _ h => by cases h) (fun _ h => by cases h) (fun _ h => by cases h) (fun _ h => by cases h) (fun _ h => by cases h) (fun _ h => by cases h) (fun _ h => by cases h) _ _ _ _ _ _ _ hWy
    clear hWy q0 q1 q2 q3 q4 q5 q6 f0 f1 f2 f3 f4 f5 f6
    have hYB := Lib.hid (And.intro hBY (hUY.frz hF2))
    have hYO := Lib.hid (And.intro (hUY.okD HLO.out) (hUY.okD HHI.out))
    have hYK := Lib.hid (hUY.2.2.1 _ HKX.out (Nat.le_refl _))
    have HST := Lib.hid (four_round (l := L) (u := U) (lo := lo) (hi := hi) Hq.out HL.out HH.out HD1.out HD2.out (ends2 hk0 HLU.out.1) (ends3 hk0 HLU.out.2) HO2.out h0 h1)
    clear hB2 hF2 hBY hUY
    go_wp2_with fail
    go_roundg (gk - 1)
    case rel => exact ⟨k + 1, L, U, by omega, by go_num, hYK.out, hYB.out, ⟨hYO.out.1, hYO.out.2, HST.out.2⟩, HST.out.1.symm.trans HF.out⟩
    case measure => omega
  have hz : ((k : Int) == 0) = true := beq_iff_eq.2 (by omega)
  go_upto_region 13 with fail
  obtain ⟨q0, q1, q2, q3, q4, q5, q6⟩ := HB9.out.1
  obtain ⟨f0, f1, f2, f3, f4, f5, f6⟩ := HB9.out.2
  obtain ⟨c0, c1, c2⟩ := HD3.out.1
  obtain ⟨d0, d1, d2⟩ := HD2.out.1
  go_upto_region 14 with fail
  generalize hWX : ((((((W9.setCell _ _).setCell _ _).setCell _ _).setCell _ _).setCell _ _).setCell _ _).setCell _ _ = WX
  obtain ⟨hBX, hUX⟩ := stored7 HB9.out.1 (fun _ h => by cases h) (fun _ h => by cases h) (fun _ h => by cases h) (fun _ h => by cases h) (fun _ h => by cases h) (fun _ h => by cases h) (fun _ h => by cases h) _ _ _ _ _ _ _ hWX
  clear hWX q0 q1 q2 q3 q4 q5 q6 f0 f1 f2 f3 f4 f5 f6 c0 c1 c2 d0 d1 d2
  have HBX := Lib.hid (And.intro hBX (hUX.frz HB9.out.2))
  have HDX := Lib.hid (And.intro (HD3.out.upd HG2.out.2.1 hUX) (HD2.out.upd HG2.out.2.2 hUX))
  have HOX := Lib.hid (And.intro (hUX.okD HD3.out.2.1) (hUX.okD HD2.out.2.1))
  have HKW := Lib.hid (hUX.2.2.1 _ (hkw.trans HK9.out) (Nat.le_refl _))
  have HO2 := Lib.hid HO.out.2.2
  clear hBX hUX HB9 HO  hkw
  have hS14 : (WX.cell? ⟨w3.heap.size, 0, none⟩ = some (.bool (RI.mk z1 z2 false).lo.neg) ∧ WX.cell? ⟨w3.heap.size, 1, none⟩ = some (.slice (RI.mk z1 z2 false).lo.a (RI.mk z1 z2 false).lo.xs.length (RI.mk z1 z2 false).lo.c) ∧ WX.cell? ⟨w3.heap.size, 2, none⟩ = some (.int .i64 (RI.mk z1 z2 false).lo.e) ∧ WX.cell? ⟨w3.heap.size, 3, none⟩ = some (.bool (RI.mk z1 z2 false).hi.neg) ∧ WX.cell? ⟨w3.heap.size, 4, none⟩ = some (.slice (RI.mk z1 z2 false).hi.a (RI.mk z1 z2 false).hi.xs.length (RI.mk z1 z2 false).hi.c) ∧ WX.cell? ⟨w3.heap.size, 5, none⟩ = some (.int .i64 (RI.mk z1 z2 false).hi.e) ∧ WX.cell? ⟨w3.heap.size, 6, none⟩ = some (.bool (RI.mk z1 z2 false).all)) ∧ (WX.cell? ⟨b1, 0, none⟩ = some (.bool z1.neg) ∧ WX.cell? ⟨b1, 1, none⟩ = some (.slice z1.a z1.xs.length z1.c) ∧ WX.cell? ⟨b1, 2, none⟩ = some (.int .i64 z1.e)) ∧ WX.cell? ⟨b2, 0, none⟩ = some (.bool z2.neg) ∧ WX.cell? ⟨b2, 1, none⟩ = some (.slice z2.a z2.xs.length z2.c) ∧ WX.cell? ⟨b2, 2, none⟩ = some (.int .i64 z2.e) := ⟨HBX.out.1, HDX.out.1.1, HDX.out.2.1⟩
  have kd := (Kp.refl WX).drew
  have hSd := keep733 kd hS14
  have HSd := Lib.hid hSd
  have HKd := Lib.hid kd
  clear hS14
  refine wp_region_last (S := fun w' => (w'.cell? ⟨w3.heap.size, 0, none⟩ = some (.bool (RI.mk z1 z2 false).lo.neg) ∧ w'.cell? ⟨w3.heap.size, 1, none⟩ = some (.slice (RI.mk z1 z2 false).lo.a (RI.mk z1 z2 false).lo.xs.length (RI.mk z1 z2 false).lo.c) ∧ w'.cell? ⟨w3.heap.size, 2, none⟩ = some (.int .i64 (RI.mk z1 z2 false).lo.e) ∧ w'.cell? ⟨w3.heap.size, 3, none⟩ = some (.bool (RI.mk z1 z2 false).hi.neg) ∧ w'.cell? ⟨w3.heap.size, 4, none⟩ = some (.slice (RI.mk z1 z2 false).hi.a (RI.mk z1 z2 false).hi.xs.length (RI.mk z1 z2 false).hi.c) ∧ w'.cell? ⟨w3.heap.size, 5, none⟩ = some (.int .i64 (RI.mk z1 z2 false).hi.e) ∧ w'.cell? ⟨w3.heap.size, 6, none⟩ = some (.bool (RI.mk z1 z2 false).all)) ∧ (w'.cell? ⟨b1, 0, none⟩ = some (.bool z1.neg) ∧ w'.cell? ⟨b1, 1, none⟩ = some (.slice z1.a z1.xs.length z1.c) ∧ w'.cell? ⟨b1, 2, none⟩ = some (.int .i64 z1.e)) ∧ w'.cell? ⟨b2, 0, none⟩ = some (.bool z2.neg) ∧ w'.cell? ⟨b2, 1, none⟩ = some (.slice z2.a z2.xs.length z2.c) ∧ w'.cell? ⟨b2, 2, none⟩ = some (.int .i64 z2.e)) 9 (by kernel_rfl) (by kernel_rfl) hSd (fun hHeld => ?_)
  clear hSd kd
  (refine wpAnyH_take (i := 0) (v := ?_) rfl (by kernel_rfl) (by kernel_rfl) (by kernel_rfl) (fun _ _ _ h => h) (Or.inl ⟨by rfl, ?_⟩) (by assumption) ?_; rotate_left; focus ((intro w hSw; (try dsimp only at hSw); go_simp); (try with_reducible rfl)); (try simp only [Act.put, List.setIfInBounds_toArray, List.set_cons_zero, List.set_cons_succ]))
  (refine wpAnyH_take (i := 1) (v := ?_) rfl (by kernel_rfl) (by kernel_rfl) (by kernel_rfl) (fun _ _ _ h => h) (Or.inl ⟨by rfl, ?_⟩) (by assumption) ?_; rotate_left; focus ((intro w hSw; (try dsimp only at hSw); go_simp); (try with_reducible rfl)); (try simp only [Act.put, List.setIfInBounds_toArray, List.set_cons_zero, List.set_cons_succ]))
  (refine wpAnyH_take (i := 2) (v := ?_) rfl (by kernel_rfl) (by kernel_rfl) (by kernel_rfl) (fun _ _ _ h => h) (Or.inl ⟨by rfl, ?_⟩) (by assumption) ?_; rotate_left; focus ((intro w hSw; (try dsimp only at hSw); go_simp); (try with_reducible rfl)); (try simp only [Act.put, List.setIfInBounds_toArray, List.set_cons_zero, List.set_cons_succ]))
  (refine wpAnyH_take (i := 4) (v := ?_) rfl (by kernel_rfl) (by kernel_rfl) (by kernel_rfl) (fun _ _ _ h => h) (Or.inl ⟨by rfl, ?_⟩) (by assumption) ?_; rotate_left; focus ((intro w hSw; (try dsimp only at hSw); go_simp); (try with_reducible rfl)); (try simp only [Act.put, List.setIfInBounds_toArray, List.set_cons_zero, List.set_cons_succ]))
  (refine wpAnyH_take (i := 5) (v := ?_) rfl (by kernel_rfl) (by kernel_rfl) (by kernel_rfl) (fun _ _ _ h => h) (Or.inl ⟨by rfl, ?_⟩) (by assumption) ?_; rotate_left; focus ((intro w hSw; (try dsimp only at hSw); go_simp); (try with_reducible rfl)); (try simp only [Act.put, List.setIfInBounds_toArray, List.set_cons_zero, List.set_cons_succ]))
  (refine wpAnyH_take (i := 6) (v := ?_) rfl (by kernel_rfl) (by kernel_rfl) (by kernel_rfl) (fun _ _ _ h => h) (Or.inl ⟨by rfl, ?_⟩) (by assumption) ?_; rotate_left; focus ((intro w hSw; (try dsimp only at hSw); go_simp); (try with_reducible rfl)); (try simp only [Act.put, List.setIfInBounds_toArray, List.set_cons_zero, List.set_cons_succ]))
  (refine wpAnyH_ready (rs := [3]) (by kernel_rfl) (by simp) ?_; refine AllReadyH.cons rfl (fun K hK => ?_) ?_; rotate_left; focus (exact AllReadyH.nil))
  (go_simp; go_fit (r5least_ok z1 z1 _ (HOX.out.1.kp HKd.out) (HDX.out.1.2.1.kp HKd.out)); rintro e v1 ⟨rfl, j1⟩)
  (refine hK.out _ _ (keep733 j1 HSd.out) (fun hHeld => ?_); clear hK K)
  have HJ1 := Lib.hid (HKd.out.trans j1)
  (refine wpAnyH_ready (rs := [7]) (by kernel_rfl) (by simp) ?_; refine AllReadyH.cons rfl (fun K hK => ?_) ?_; rotate_left; focus (exact AllReadyH.nil))
  (go_simp; go_fit (r5most_ok z2 z2 _ (HOX.out.2.kp HJ1.out) (HDX.out.2.2.1.kp HJ1.out)); rintro e v2 ⟨rfl, j2⟩)
  (refine hK.out _ _ (keep733 (j1.trans j2) HSd.out) (fun hHeld => ?_); clear hK K)
  have HJ2 := Lib.hid (HJ1.out.trans j2)
  (refine wpAnyH_take (i := 8) (v := ?_) rfl (by kernel_rfl) (by kernel_rfl) (by kernel_rfl) (fun _ _ _ h => h) (Or.inl ⟨by rfl, ?_⟩) (by assumption) ?_; rotate_left; focus ((intro w hSw; (try dsimp only at hSw); go_simp); (try with_reducible rfl)); (try simp only [Act.put, List.setIfInBounds_toArray, List.set_cons_zero, List.set_cons_succ]))
  refine wpAnyH_done (by kernel_rfl) ?_ _
  have hB2 := HBX.out.1.kp HJ2.out
  have hF2 := HBX.out.2.kp HBX.out.1 HJ2.out
  obtain ⟨q0, q1, q2, q3, q4, q5, q6⟩ := id hB2
  obtain ⟨f0, f1, f2, f3, f4, f5, f6⟩ := id hF2
  have HLO := Lib.hid (lessR_ok (HOX.out.1.kp HJ2.out) (HDX.out.1.2.1.kp HJ2.out))
  have HHI := Lib.hid (moreR_ok (HOX.out.2.kp HJ2.out) (HDX.out.2.2.1.kp HJ2.out))
  have HD1 := Lib.hid HDX.out.1.2.2
  have HD2 := Lib.hid HDX.out.2.2.2
  have HKX := Lib.hid (HKW.out.trans HJ2.out)
  obtain ⟨L, hL⟩ : ∃ L, L = lessR z1 z1 := ⟨_, rfl⟩
  obtain ⟨U, hU⟩ : ∃ U, U = moreR z2 z2 := ⟨_, rfl⟩
  have HLU := Lib.hid (And.intro hL hU)
  rw [← hL] at HLO ⊢
  rw [← hU] at HHI ⊢
  clear hL hU hHeld j1 j2 HJ1 HSd HKd HBX HDX HOX
  refine LastQ_run rfl (fun K hK => ?_)
  go_simp
  refine hK.out _ _ ?_
  clear hK K
  generalize hWy : ((((((v2.setCell _ _).setCell _ _).setCell _ _).setCell _ _).setCell _ _).setCell _ _).setCell _ _ = WY
  obtain ⟨hBY, hUY⟩ := stored7 hB2 (fun _ h => by cases h) (fun _ h => by cases h) (fun _ h => by cases h) (fun _ h => by cases h) (fun _ h => by cases h) (fun _ h => by cases h) (fun _ h => by cases h) _ _ _ _ _ _ _ hWy
  clear hWy q0 q1 q2 q3 q4 q5 q6 f0 f1 f2 f3 f4 f5 f6
  have hYB := Lib.hid (And.intro hBY (hUY.frz hF2))
  have hYO := Lib.hid (And.intro (hUY.okD HLO.out) (hUY.okD HHI.out))
  have hYK := Lib.hid (hUY.2.2.1 _ HKX.out (Nat.le_refl _))
  have HST := Lib.hid (four_round (l := L) (u := U) (lo := lo) (hi := hi) Hq.out HL.out HH.out HD1.out HD2.out (ends0 hk0 HLU.out.1) (ends1 hk0 HLU.out.2) HO2.out h0 h1)
  clear hB2 hF2 hBY hUY
  go_wp2_with fail
  go_roundg (gk - 1)
  case rel => exact ⟨k + 1, L, U, by omega, by go_num, hYK.out, hYB.out, ⟨hYO.out.1, hYO.out.2, HST.out.2⟩, HST.out.1.symm.trans HF.out⟩
  case measure => omega
end Go.Proofs.YtpocjagbhiahdaaGreatDoor
