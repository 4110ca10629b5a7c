/-
  Walks: interval.Mul of valid intervals.
-/
import Derived.Test.YtdidocdpjiiedaaGreatDoorMIvF4
namespace Go.Proofs.YtdidocdpjiiedaaGreatDoor
open Go.RowKit

set_option maxRecDepth 100000 in
set_option maxHeartbeats 8000000 in
theorem IMul_any (x y : RI) (p : Nat) (w : World) (hx : x.rd w) (hy : y.rd w) (vx : x.vl = true) (vy : y.vl = true) (h0 : 8 ≤ p) (h1 : p ≤ 512) (hT : Tab w) :
    Calls Tryz.prog 105 #[.agg #[.bool x.lo.neg, .slice x.lo.a x.lo.xs.length x.lo.c, .int .i64 x.lo.e, .bool x.hi.neg, .slice x.hi.a x.hi.xs.length x.hi.c, .int .i64 x.hi.e, .bool x.all], .agg #[.bool y.lo.neg, .slice y.lo.a y.lo.xs.length y.lo.c, .int .i64 y.lo.e, .bool y.hi.neg, .slice y.hi.a y.hi.xs.length y.hi.c, .int .i64 y.hi.e, .bool y.all], .int .i64 p] w (IvOut w (pMul x.pl y.pl p)) := by
  have Hp := Lib.hid (show preB (p : Int) = true from preB_iff.2 ⟨by omega, by omega⟩)
  go_enter Tryz.func105, Tryz.ntmps105
  go_wp2_with fail
  generalize hW3 : (((w.alloc _).alloc _).alloc _) = W3 at *
  have hk3 : Kp w W3 := hW3 ▸ (((Kp.refl w).alloc _).alloc _).alloc _
  have hS3 : (W3.cell? ⟨w.heap.size, 0, none⟩ = some (.bool x.lo.neg) ∧ W3.cell? ⟨w.heap.size, 1, none⟩ = some (.slice x.lo.a x.lo.xs.length x.lo.c) ∧ W3.cell? ⟨w.heap.size, 2, none⟩ = some (.int .i64 x.lo.e) ∧ W3.cell? ⟨w.heap.size, 3, none⟩ = some (.bool x.hi.neg) ∧ W3.cell? ⟨w.heap.size, 4, none⟩ = some (.slice x.hi.a x.hi.xs.length x.hi.c) ∧ W3.cell? ⟨w.heap.size, 5, none⟩ = some (.int .i64 x.hi.e) ∧ W3.cell? ⟨w.heap.size, 6, none⟩ = some (.bool x.all)) ∧ W3.cell? ⟨w.heap.size + 1, 0, none⟩ = some (.bool y.lo.neg) ∧ W3.cell? ⟨w.heap.size + 1, 1, none⟩ = some (.slice y.lo.a y.lo.xs.length y.lo.c) ∧ W3.cell? ⟨w.heap.size + 1, 2, none⟩ = some (.int .i64 y.lo.e) ∧ W3.cell? ⟨w.heap.size + 1, 3, none⟩ = some (.bool y.hi.neg) ∧ W3.cell? ⟨w.heap.size + 1, 4, none⟩ = some (.slice y.hi.a y.hi.xs.length y.hi.c) ∧ W3.cell? ⟨w.heap.size + 1, 5, none⟩ = some (.int .i64 y.hi.e) ∧ W3.cell? ⟨w.heap.size + 1, 6, none⟩ = some (.bool y.all) := by rw [← hW3]; exact keep77 ((Kp.refl _).alloc _) (by simp)
  have hV3 : Var7 W3 (w.heap.size + 1 + 1) := hW3 ▸ Var7.new2 _ _ _ _
  have hsz : W3.heap.size = w.heap.size + 1 + 1 + 1 := by rw [← hW3]; simp
  have hR := rowI_twoR W3 x y (hx.kp hk3) (hy.kp hk3) 43
  rw [hsz] at hR
  have hk4 := (Kp.refl W3).alloc (.cells #[.bool x.lo.neg, .slice x.lo.a x.lo.xs.length x.lo.c, .int .i64 x.lo.e, .bool x.hi.neg, .slice x.hi.a x.hi.xs.length x.hi.c, .int .i64 x.hi.e, .bool x.all, .bool y.lo.neg, .slice y.lo.a y.lo.xs.length y.lo.c, .int .i64 y.lo.e, .bool y.hi.neg, .slice y.hi.a y.hi.xs.length y.hi.c, .int .i64 y.hi.e, .bool y.all] 43)
  generalize hW : W3.alloc _ = W at *
  have hS := keep77 hk4 hS3
  have hV := hV3.kp hk4
  have hk := hk3.trans hk4
  clear hW hW3 hS3 hV3 hk3 hk4 hsz
  refine (known_any _ [x, y] 2 _ hR (by simp)).mono ?_
  rintro e w1 ⟨rfl, hk1⟩
  have hS1 := keep77 hk1 hS
  have hV1 := hV.kp hk1
  have hk2 := (hk.trans hk1)
  have hT1 := hT.kp hk2
  have hx1 := hx.kp hk2
  have hy1 := hy.kp hk2
  clear hR hS hV hk hk1
  cases ha : x.all || y.all with
  | true =>
    have hg : [x, y].all goodI = false := by
      simp only [List.all_cons, List.all_nil, Bool.and_true]
      rw [goodI_vl vx, goodI_vl vy]
      cases hxa : x.all <;> cases hya : y.all <;> simp_all
    have HP := Lib.hid (show pMul x.pl y.pl p = .whole by unfold pMul; rw [if_pos (by exact ha)])
    rw [hg]
    clear hg ha hS1
    go_wp2_with fail
    refine (Whole_any _).mono ?_
    rintro e w2 ⟨rfl, hk3⟩
    have hk4 := hk2.trans hk3
    obtain ⟨⟨q0, q1, q2, q3, q4, q5, q6⟩, f0, f1, f2, f3, f4, f5, f6⟩ := hV1.kp hk3
    go_wp2_with fail
    generalize hW9 : ((((((w2.setCell _ _).setCell _ _).setCell _ _).setCell _ _).setCell _ _).setCell _ _).setCell _ _ = W9
    obtain ⟨⟨s0, s1, s2, s3, s4, s5, s6⟩, hU⟩ := stored7 (show Box7 w2 _ _ _ _ _ _ _ _ from ⟨q0, q1, q2, q3, q4, q5, q6⟩) (fun _ h => by cases h) (fun _ h => by cases h) (fun _ h => by cases h) (fun _ h => by cases h) (fun _ h => by cases h) (fun _ h => by cases h) (fun _ h => by cases h) _ _ _ _ _ _ _ hW9
    clear hW9 q0 q1 q2 q3 q4 q5 q6 f0 f1 f2 f3 f4 f5 f6
    refine bodyPost_ret (v := .agg #[.bool false, .slice none 0 0, .int .i64 0, .bool false, .slice none 0 0, .int .i64 0, .bool true]) (by simp [results, Tryz.results105, go_sem, s0, s1, s2, s3, s4, s5, s6]) rfl ?_
    rw [HP.out]
    exact ⟨wholeR, rfl, wholeR_rd _, rfl, rfl, hU.2.2.1 _ hk4 (by omega)⟩
  | false =>
    have hax : x.all = false := by cases hxa : x.all <;> simp_all
    have hay : y.all = false := by cases hya : y.all <;> simp_all
    have ox := ok_of hx1 vx hax
    have oy := ok_of hy1 vy hay
    have hg : [x, y].all goodI = true := by simp [(goodI_ok ox.1).2 ox, (goodI_ok oy.1).2 oy]
    have HP := Lib.hid (show pMul x.pl y.pl p = fourP (opP p) (restP x y 0) none by unfold pMul; rw [if_neg (by show ¬ (x.all || y.all) = true; rw [ha]; decide)]; rfl)
    have C1 := Lib.hid (fun (W : World) (k : Kp w1 W) => four_any x y p W (ox.kp k) (oy.kp k) h0 h1 (hT1.kp k))
    rw [hax, hay] at hS1
    rw [hg]
    clear hg ha hax hay ox oy hx1 hy1
    go_wp2_with fail
    go_fit (permitted_any (p : Int) _)
    rintro e w2 ⟨rfl, rfl⟩
    rw [Hp.out]
    obtain ⟨⟨s0, s1, s2, s3, s4, s5, s6⟩, t0, t1, t2, t3, t4, t5, t6⟩ := id hS1
    go_wp2_with fail
    go_fit (C1.out _ (.refl _))
    rintro e w5 ⟨Z, rfl, R3, Zp, Zv, k5⟩
    have R3 := Lib.hid R3
    have Zpv := Lib.hid (And.intro Zp Zv)
    have hk5 := hk2.trans k5
    obtain ⟨⟨q0, q1, q2, q3, q4, q5, q6⟩, f0, f1, f2, f3, f4, f5, f6⟩ := hV1.kp k5
    clear Zp Zv hS1 s0 s1 s2 s3 s4 s5 s6 t0 t1 t2 t3 t4 t5 t6
    go_wp2_with fail
    generalize hW9 : ((((((w5.setCell _ _).setCell _ _).setCell _ _).setCell _ _).setCell _ _).setCell _ _).setCell _ _ = W9
    obtain ⟨⟨s0, s1, s2, s3, s4, s5, s6⟩, hU⟩ := stored7 (show Box7 w5 _ _ _ _ _ _ _ _ from ⟨q0, q1, q2, q3, q4, q5, q6⟩) (fun _ h => by cases h) (fun _ h => by cases h) (fun _ h => by cases h) (fun _ h => by cases h) (fun _ h => by cases h) (fun _ h => by cases h) (fun _ h => by cases h) _ _ _ _ _ _ _ hW9
    clear hW9 q0 q1 q2 q3 q4 q5 q6 f0 f1 f2 f3 f4 f5 f6
    refine bodyPost_ret (v := .agg #[.bool Z.lo.neg, .slice Z.lo.a Z.lo.xs.length Z.lo.c, .int .i64 Z.lo.e, .bool Z.hi.neg, .slice Z.hi.a Z.hi.xs.length Z.hi.c, .int .i64 Z.hi.e, .bool Z.all]) (by simp [results, Tryz.results105, go_sem, s0, s1, s2, s3, s4, s5, s6]) rfl ?_
    rw [HP.out]
    exact ⟨Z, rfl, hU.rdI R3.out, Zpv.out.1, Zpv.out.2, hU.2.2.1 _ hk5 (by omega)⟩
end Go.Proofs.YtdidocdpjiiedaaGreatDoor
