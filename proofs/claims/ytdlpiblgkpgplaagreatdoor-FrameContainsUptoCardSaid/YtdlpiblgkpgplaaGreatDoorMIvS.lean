/-
  Walks: interval.Whole, made, Add, of valid intervals.
  Walks: interval.Neg, Sub, of valid intervals.
  Walks: dyadic.Abs of valid numbers.
  Walks: interval.Mag of valid intervals.
  Plain and stores: what interval.four asks for.
-/
import Derived.Test.YtdlpiblgkpgplaaGreatDoorMCmpD
import Derived.Test.YtdlpiblgkpgplaaGreatDoorMRoAdd
import Derived.Test.YtdlpiblgkpgplaaGreatDoorMSumH
import Derived.Deep.DeepFit
import Derived.Test.YtdlpiblgkpgplaaGreatDoorMDyD
import Derived.Laws.Rows
import Derived.Laws.Tables
import Derived.Test.YtdlpiblgkpgplaaGreatDoorMRoSq
section
namespace Go.Proofs.YtdlpiblgkpgplaaGreatDoor
open Go.RowKit

/-- two intervals in a block of the call's own, as they come -/
theorem rowI_twoR (w : World) (x y : RI) (hx : x.rd w) (hy : y.rd w) (t : TypeId) : RowI (w.alloc (.cells #[.bool x.lo.neg, .slice x.lo.a x.lo.xs.length x.lo.c, .int .i64 x.lo.e, .bool x.hi.neg, .slice x.hi.a x.hi.xs.length x.hi.c, .int .i64 x.hi.e, .bool x.all, .bool y.lo.neg, .slice y.lo.a y.lo.xs.length y.lo.c, .int .i64 y.lo.e, .bool y.hi.neg, .slice y.hi.a y.hi.xs.length y.hi.c, .int .i64 y.hi.e, .bool y.all] t)) (some ⟨w.heap.size, 0, none⟩) [x, y] := by
  intro i z hi
  have hk := (Kp.refl w).alloc (.cells #[.bool x.lo.neg, .slice x.lo.a x.lo.xs.length x.lo.c, .int .i64 x.lo.e, .bool x.hi.neg, .slice x.hi.a x.hi.xs.length x.hi.c, .int .i64 x.hi.e, .bool x.all, .bool y.lo.neg, .slice y.lo.a y.lo.xs.length y.lo.c, .int .i64 y.lo.e, .bool y.hi.neg, .slice y.hi.a y.hi.xs.length y.hi.c, .int .i64 y.hi.e, .bool y.all] t)
  match i with
  | 0 =>
    simp only [List.getElem?_cons_zero, Option.some.injEq] at hi
    subst hi
    refine ⟨_, 0, rfl, hx.kp hk, ?_, ?_, ?_, ?_, ?_, ?_, ?_⟩ <;> simp
  | 1 =>
    simp only [List.getElem?_cons_succ, List.getElem?_cons_zero, Option.some.injEq] at hi
    subst hi
    refine ⟨_, 0, rfl, hy.kp hk, ?_, ?_, ?_, ?_, ?_, ?_, ?_⟩ <;> simp
  | i + 2 => simp at hi
theorem Var7.new1 (w : World) (t : TypeId) (o1 : Obj) : Var7 ((w.alloc o1).alloc (.cells #[.bool false, .slice none 0 0, .int .i64 0, .bool false, .slice none 0 0, .int .i64 0, .bool false] t)) (w.heap.size + 1) := by
  have := Var7.new (w.alloc o1) t
  rwa [World.size_alloc] at this
theorem Upd.rdD {g : Nat} {w W : World} (h : Upd g w W) {x : RD} (hx : x.rd w) : x.rd W := ⟨h.2.1 _ _ hx.1, hx.2⟩
theorem Upd.rdI {g : Nat} {w W : World} (h : Upd g w W) {x : RI} (hx : x.rd w) : x.rd W := ⟨h.rdD hx.1, h.rdD hx.2⟩
set_option maxHeartbeats 4000000 in
theorem Whole_any (w : World) :
    Calls Tryz.prog 109 #[] w fun e w' => e = .returned (.agg #[.bool false, .slice none 0 0, .int .i64 0, .bool false, .slice none 0 0, .int .i64 0, .bool true]) ∧ Kp w w' := by
  go_enter Tryz.func109, Tryz.ntmps109
  go_wp2_with fail
  refine bodyPost_ret (v := .agg #[.bool false, .slice none 0 0, .int .i64 0, .bool false, .slice none 0 0, .int .i64 0, .bool true]) (by simp [results, Tryz.results109, go_sem]) rfl ?_
  exact ⟨rfl, (Kp.refl w).alloc _⟩
/-- an interval of two numbers, or All -/
def madeR (x y : RD) (e f : Int) : RI := if e ≠ 0 ∨ f ≠ 0 then wholeR else ⟨x, y, false⟩
theorem madeR_rd {w : World} {x y : RD} {e f : Int} (hx : x.rd w) (hy : y.rd w) : (madeR x y e f).rd w := by
  unfold madeR; split
  · exact wholeR_rd w
  · exact ⟨hx, hy⟩
theorem madeR_pl {x y : RD} {l h : Dy × Int} (hx : x.dy = l.1) (hy : y.dy = h.1) : (madeR x y l.2 h.2).pl = mkI l h := by
  unfold madeR mkI; split
  · rfl
  · unfold RI.pl; rw [hx, hy]
theorem vl_mk2 {x y : RD} (hx : x.vl = true) (hy : y.vl = true) (h : x.iv ≤ y.iv) : RI.vl ⟨x, y, false⟩ = true := by
  unfold RI.vl
  have := @cmpZ_gt x.iv y.iv
  simp [hx, hy]; omega
theorem madeR_vl {x y : RD} {l h : Dy × Int} (hx : x.dy = l.1) (hy : y.dy = h.1) (vx : x.vl = true) (vy : y.vl = true) (hle : l.2 = 0 → h.2 = 0 → l.1.iv ≤ h.1.iv) : (madeR x y l.2 h.2).vl = true := by
  unfold madeR; split
  · rfl
  · next hn =>
    refine vl_mk2 vx vy ?_
    show x.dy.iv ≤ y.dy.iv
    rw [hx, hy]; exact hle (by omega) (by omega)
set_option maxRecDepth 100000 in
set_option maxHeartbeats 4000000 in
theorem made_any (x y : RD) (e f : Int) (w : World) :
    Calls Tryz.prog 110 #[.agg #[.bool x.neg, .slice x.a x.xs.length x.c, .int .i64 x.e], .int .i64 e, .agg #[.bool y.neg, .slice y.a y.xs.length y.c, .int .i64 y.e], .int .i64 f] w fun r w' => r = .returned (.agg #[.bool (madeR x y e f).lo.neg, .slice (madeR x y e f).lo.a (madeR x y e f).lo.xs.length (madeR x y e f).lo.c, .int .i64 (madeR x y e f).lo.e, .bool (madeR x y e f).hi.neg, .slice (madeR x y e f).hi.a (madeR x y e f).hi.xs.length (madeR x y e f).hi.c, .int .i64 (madeR x y e f).hi.e, .bool (madeR x y e f).all]) ∧ Kp w w' := by
  by_cases h : e ≠ 0 ∨ f ≠ 0
  · have HM := Lib.hid (show madeR x y e f = wholeR by unfold madeR; rw [if_pos h])
    by_cases he : e = 0
    · have hf : f ≠ 0 := h.resolve_left (fun k => k he)
      have g2 : (f != 0) = true := by rw [bne, beq_eq_false_iff_ne.2 hf]; rfl
      have g3 : (f == 0) = false := beq_eq_false_iff_ne.2 hf
      clear h hf
      subst he
      go_enter Tryz.func110, Tryz.ntmps110
      go_wp2_with fail
      generalize hW : (((w.alloc _).alloc _).alloc _) = W at *
      have hk : Kp w W := hW ▸ (((Kp.refl w).alloc _).alloc _).alloc _
      have hV : Var7 W (w.heap.size + 1 + 1) := by rw [← hW]; exact Var7.new2 _ _ _ _
      clear hW
      go_fit (Whole_any _)
      rintro r w1 ⟨rfl, hk1⟩
      have hk2 := hk.trans hk1
      obtain ⟨⟨q0, q1, q2, q3, q4, q5, q6⟩, f0, f1, f2, f3, f4, f5, f6⟩ := hV.kp hk1
      go_wp2_with fail
      generalize hW9 : ((((((w1.setCell _ _).setCell _ _).setCell _ _).setCell _ _).setCell _ _).setCell _ _).setCell _ _ = W9
      obtain ⟨⟨s0, s1, s2, s3, s4, s5, s6⟩, hU⟩ := stored7 (show Box7 w1 _ _ _ _ _ _ _ _ from ⟨q0, q1, q2, q3, q4, q5, q6⟩) (fun _ h => by cases h) (fun _ h => by cases h) (fun _ h => by cases h) (fun _ h => by cases h) (fun _ h => by cases h) (fun _ h => by cases h) (fun _ h => by cases h) _ _ _ _ _ _ _ hW9
      clear hW9 q0 q1 q2 q3 q4 q5 q6 f0 f1 f2 f3 f4 f5 f6
      refine bodyPost_ret (v := .agg #[.bool false, .slice none 0 0, .int .i64 0, .bool false, .slice none 0 0, .int .i64 0, .bool true]) (by simp [results, Tryz.results110, go_sem, s0, s1, s2, s3, s4, s5, s6]) rfl ?_
      rw [HM.out]
      exact ⟨rfl, hU.2.2.1 _ hk2 (by omega)⟩
    · have g1 : (e != 0) = true := by rw [bne, beq_eq_false_iff_ne.2 he]; rfl
      have g3 : (e == 0) = false := beq_eq_false_iff_ne.2 he
      clear h he
      go_enter Tryz.func110, Tryz.ntmps110
      go_wp2_with fail
      generalize hW : (((w.alloc _).alloc _).alloc _) = W at *
      have hk : Kp w W := hW ▸ (((Kp.refl w).alloc _).alloc _).alloc _
      have hV : Var7 W (w.heap.size + 1 + 1) := by rw [← hW]; exact Var7.new2 _ _ _ _
      clear hW
      go_fit (Whole_any _)
      rintro r w1 ⟨rfl, hk1⟩
      have hk2 := hk.trans hk1
      obtain ⟨⟨q0, q1, q2, q3, q4, q5, q6⟩, f0, f1, f2, f3, f4, f5, f6⟩ := hV.kp hk1
      go_wp2_with fail
      generalize hW9 : ((((((w1.setCell _ _).setCell _ _).setCell _ _).setCell _ _).setCell _ _).setCell _ _).setCell _ _ = W9
      obtain ⟨⟨s0, s1, s2, s3, s4, s5, s6⟩, hU⟩ := stored7 (show Box7 w1 _ _ _ _ _ _ _ _ from ⟨q0, q1, q2, q3, q4, q5, q6⟩) (fun _ h => by cases h) (fun _ h => by cases h) (fun _ h => by cases h) (fun _ h => by cases h) (fun _ h => by cases h) (fun _ h => by cases h) (fun _ h => by cases h) _ _ _ _ _ _ _ hW9
      clear hW9 q0 q1 q2 q3 q4 q5 q6 f0 f1 f2 f3 f4 f5 f6
      refine bodyPost_ret (v := .agg #[.bool false, .slice none 0 0, .int .i64 0, .bool false, .slice none 0 0, .int .i64 0, .bool true]) (by simp [results, Tryz.results110, go_sem, s0, s1, s2, s3, s4, s5, s6]) rfl ?_
      rw [HM.out]
      exact ⟨rfl, hU.2.2.1 _ hk2 (by omega)⟩
  · have HM := Lib.hid (show madeR x y e f = ⟨x, y, false⟩ by unfold madeR; rw [if_neg h])
    have he : e = 0 := Classical.byContradiction fun k => h (.inl k)
    have hf : f = 0 := Classical.byContradiction fun k => h (.inr k)
    clear h
    subst he
    subst hf
    go_enter Tryz.func110, Tryz.ntmps110
    go_wp2_with fail
    refine bodyPost_ret (v := .agg #[.bool (RI.mk x y false).lo.neg, .slice (RI.mk x y false).lo.a (RI.mk x y false).lo.xs.length (RI.mk x y false).lo.c, .int .i64 (RI.mk x y false).lo.e, .bool (RI.mk x y false).hi.neg, .slice (RI.mk x y false).hi.a (RI.mk x y false).hi.xs.length (RI.mk x y false).hi.c, .int .i64 (RI.mk x y false).hi.e, .bool (RI.mk x y false).all]) (by simp [results, Tryz.results110, go_sem]) rfl ?_
    rw [HM.out]
    exact ⟨rfl, (((Kp.refl w).alloc _).alloc _).alloc _⟩
/-- valid intervals other than All -/
theorem goodI_vl {x : RI} (h : x.vl = true) : goodI x = !x.all := by unfold goodI; rw [h]; simp
theorem ok_of {w : World} {x : RI} (h : x.rd w) (v : x.vl = true) (ha : x.all = false) : x.ok w := ⟨h, ha, v⟩
set_option maxRecDepth 100000 in
set_option maxHeartbeats 8000000 in
theorem IAdd_any (x y : RI) (p : Nat) (w : World) (hx : x.rd w) (hy : y.rd w) (vx : x.vl = true) (vy : y.vl = true) (h0 : 8 ≤ p) (h1 : p ≤ 512) (hT : Tab w) :
    Calls Tryz.prog 80 #[.agg #[.bool x.lo.neg, .slice x.lo.a x.lo.xs.length x.lo.c, .int .i64 x.lo.e, .bool x.hi.neg, .slice x.hi.a x.hi.xs.length x.hi.c, .int .i64 x.hi.e, .bool x.all], .agg #[.bool y.lo.neg, .slice y.lo.a y.lo.xs.length y.lo.c, .int .i64 y.lo.e, .bool y.hi.neg, .slice y.hi.a y.hi.xs.length y.hi.c, .int .i64 y.hi.e, .bool y.all], .int .i64 p] w (IvOut w (pAdd x.pl y.pl p)) := by
  have Hp := Lib.hid (show preB (p : Int) = true from preB_iff.2 ⟨by omega, by omega⟩)
  go_enter Tryz.func80, Tryz.ntmps80
  go_wp2_with fail
  generalize hW3 : (((w.alloc _).alloc _).alloc _) = W3 at *
  have hk3 : Kp w W3 := hW3 ▸ (((Kp.refl w).alloc _).alloc _).alloc _
  have hS3 : (W3.cell? ⟨w.heap.size, 0, none⟩ = some (.bool x.lo.neg) ∧ W3.cell? ⟨w.heap.size, 1, none⟩ = some (.slice x.lo.a x.lo.xs.length x.lo.c) ∧ W3.cell? ⟨w.heap.size, 2, none⟩ = some (.int .i64 x.lo.e) ∧ W3.cell? ⟨w.heap.size, 3, none⟩ = some (.bool x.hi.neg) ∧ W3.cell? ⟨w.heap.size, 4, none⟩ = some (.slice x.hi.a x.hi.xs.length x.hi.c) ∧ W3.cell? ⟨w.heap.size, 5, none⟩ = some (.int .i64 x.hi.e) ∧ W3.cell? ⟨w.heap.size, 6, none⟩ = some (.bool x.all)) ∧ W3.cell? ⟨w.heap.size + 1, 0, none⟩ = some (.bool y.lo.neg) ∧ W3.cell? ⟨w.heap.size + 1, 1, none⟩ = some (.slice y.lo.a y.lo.xs.length y.lo.c) ∧ W3.cell? ⟨w.heap.size + 1, 2, none⟩ = some (.int .i64 y.lo.e) ∧ W3.cell? ⟨w.heap.size + 1, 3, none⟩ = some (.bool y.hi.neg) ∧ W3.cell? ⟨w.heap.size + 1, 4, none⟩ = some (.slice y.hi.a y.hi.xs.length y.hi.c) ∧ W3.cell? ⟨w.heap.size + 1, 5, none⟩ = some (.int .i64 y.hi.e) ∧ W3.cell? ⟨w.heap.size + 1, 6, none⟩ = some (.bool y.all) := by rw [← hW3]; exact keep77 ((Kp.refl _).alloc _) (by simp)
  have hV3 : Var7 W3 (w.heap.size + 1 + 1) := hW3 ▸ Var7.new2 _ _ _ _
  have hsz : W3.heap.size = w.heap.size + 1 + 1 + 1 := by rw [← hW3]; simp
  have hR := rowI_twoR W3 x y (hx.kp hk3) (hy.kp hk3) 35
  rw [hsz] at hR
  have hk4 := (Kp.refl W3).alloc (.cells #[.bool x.lo.neg, .slice x.lo.a x.lo.xs.length x.lo.c, .int .i64 x.lo.e, .bool x.hi.neg, .slice x.hi.a x.hi.xs.length x.hi.c, .int .i64 x.hi.e, .bool x.all, .bool y.lo.neg, .slice y.lo.a y.lo.xs.length y.lo.c, .int .i64 y.lo.e, .bool y.hi.neg, .slice y.hi.a y.hi.xs.length y.hi.c, .int .i64 y.hi.e, .bool y.all] 35)
  generalize hW : W3.alloc _ = W at *
  have hS := keep77 hk4 hS3
  have hV := hV3.kp hk4
  have hk := hk3.trans hk4
  clear hW hW3 hS3 hV3 hk3 hk4 hsz
  refine (known_any _ [x, y] 2 _ hR (by simp)).mono ?_
  rintro e w1 ⟨rfl, hk1⟩
  have hS1 := keep77 hk1 hS
  have hV1 := hV.kp hk1
  have hk2 := (hk.trans hk1)
  have hT1 := hT.kp hk2
  have hx1 := hx.kp hk2
  have hy1 := hy.kp hk2
  clear hR hS hV hk hk1
  cases ha : x.all || y.all with
  | true =>
    have hg : [x, y].all goodI = false := by
      simp only [List.all_cons, List.all_nil, Bool.and_true]
      rw [goodI_vl vx, goodI_vl vy]
      cases hxa : x.all <;> cases hya : y.all <;> simp_all
    have HP := Lib.hid (show pAdd x.pl y.pl p = .whole by unfold pAdd; rw [if_pos (by exact ha)])
    rw [hg]
    clear hg ha hS1
    go_wp2_with fail
    refine (Whole_any _).mono ?_
    rintro e w2 ⟨rfl, hk3⟩
    have hk4 := hk2.trans hk3
    obtain ⟨⟨q0, q1, q2, q3, q4, q5, q6⟩, f0, f1, f2, f3, f4, f5, f6⟩ := hV1.kp hk3
    go_wp2_with fail
    generalize hW9 : ((((((w2.setCell _ _).setCell _ _).setCell _ _).setCell _ _).setCell _ _).setCell _ _).setCell _ _ = W9
    obtain ⟨⟨s0, s1, s2, s3, s4, s5, s6⟩, hU⟩ := stored7 (show Box7 w2 _ _ _ _ _ _ _ _ from ⟨q0, q1, q2, q3, q4, q5, q6⟩) (fun _ h => by cases h) (fun _ h => by cases h) (fun _ h => by cases h) (fun _ h => by cases h) (fun _ h => by cases h) (fun _ h => by cases h) (fun _ h => by cases h) _ _ _ _ _ _ _ hW9
    clear hW9 q0 q1 q2 q3 q4 q5 q6 f0 f1 f2 f3 f4 f5 f6
    refine bodyPost_ret (v := .agg #[.bool false, .slice none 0 0, .int .i64 0, .bool false, .slice none 0 0, .int .i64 0, .bool true]) (by simp [results, Tryz.results80, go_sem, s0, s1, s2, s3, s4, s5, s6]) rfl ?_
    rw [HP.out]
    exact ⟨wholeR, rfl, wholeR_rd _, rfl, rfl, hU.2.2.1 _ hk4 (by omega)⟩
  | false =>
    have hax : x.all = false := by cases hxa : x.all <;> simp_all
    have hay : y.all = false := by cases hya : y.all <;> simp_all
    have ox := ok_of hx1 vx hax
    have oy := ok_of hy1 vy hay
    have hg : [x, y].all goodI = true := by simp [(goodI_ok ox.1).2 ox, (goodI_ok oy.1).2 oy]
    have HP := Lib.hid (show pAdd x.pl y.pl p = mkI (adP x.lo.dy y.lo.dy p false) (adP x.hi.dy y.hi.dy p true) by unfold pAdd; rw [if_neg (by show ¬ (x.all || y.all) = true; rw [ha]; decide)]; rfl)
    have E1 := Lib.hid (addB_dy ox.lo oy.lo h0 h1 false)
    have E2 := Lib.hid (addB_dy ox.hi oy.hi h0 h1 true)
    have HOK := Lib.hid (fun a b => rndE_between (K := 0) (S := x.lo.dy.iv + y.lo.dy.iv) (T := x.hi.dy.iv + y.hi.dy.iv) (p := p) (q := p) (by omega) (by omega) (by omega) (by omega) (by
      have u1 := ox.parts.2.2
      have u2 := oy.parts.2.2
      show x.lo.iv + y.lo.iv ≤ x.hi.iv + y.hi.iv
      omega) a b)
    have C1 := fun (W : World) (k : Kp w1 W) => rAddDown_of x.lo y.lo (p : Int) _ _ W (fun W' k' => add_rd x.lo y.lo p false W' ((ox.lo.1.kp k).kp k') ((oy.lo.1.kp k).kp k') ((hT1.kp k).kp k'))
    have C2 := fun (W : World) (k : Kp w1 W) => rAddUp_of x.hi y.hi (p : Int) _ _ W (fun W' k' => add_rd x.hi y.hi p true W' ((ox.hi.1.kp k).kp k') ((oy.hi.1.kp k).kp k') ((hT1.kp k).kp k'))
    rw [E1.out] at C1
    rw [E2.out] at C2
    have K1 := Lib.hid (adP_ok x.lo.dy y.lo.dy h0 h1 false)
    have K2 := Lib.hid (adP_ok x.hi.dy y.hi.dy h0 h1 true)
    obtain ⟨L, hL⟩ : ∃ L, L = adP x.lo.dy y.lo.dy p false := ⟨_, rfl⟩
    obtain ⟨H, hH⟩ : ∃ H, H = adP x.hi.dy y.hi.dy p true := ⟨_, rfl⟩
    have HOK2 := Lib.hid (show L.2 = 0 → H.2 = 0 → L.1.iv ≤ H.1.iv by rw [hL, hH]; exact HOK.out)
    rw [← hL] at C1 HP K1
    rw [← hH] at C2 HP K2
    have D1 := Lib.hid C1
    have D2 := Lib.hid C2
    rw [hg]
    clear hg ha hax hay C1 C2 E1 E2 HOK hL hH
    have Ox := Lib.hid ox
    have Oy := Lib.hid oy
    clear ox oy
    go_wp2_with fail
    go_fit (permitted_any (p : Int) _)
    rintro e w2 ⟨rfl, rfl⟩
    rw [Hp.out]
    obtain ⟨⟨s0, s1, s2, s3, s4, s5, s6⟩, t0, t1, t2, t3, t4, t5, t6⟩ := id hS1
    go_wp2_with fail
    go_fit (D1.out _ (.refl _))
    rintro e w3 ⟨z1, rfl, rz, dz, vz, k3⟩
    have ka := (Kp.refl w3).alloc (.cells #[.bool z1.neg, .slice z1.a z1.xs.length z1.c, .int .i64 z1.e] 33)
    have k3a := k3.trans ka
    have R1 := Lib.hid (rz.kp ka)
    have Z1 := Lib.hid (And.intro dz (vz K1.out))
    have hS2 := keep77 k3a hS1
    have hV2 := hV1.kp k3a
    have hk3 := hk2.trans k3a
    clear rz dz vz hS1 hV1 s0 s1 s2 s3 s4 s5 s6 t0 t1 t2 t3 t4 t5 t6 k3
    obtain ⟨⟨s0, s1, s2, s3, s4, s5, s6⟩, t0, t1, t2, t3, t4, t5, t6⟩ := id hS2
    go_wp2_with fail
    generalize hA3 : w3.alloc _ = A3 at *
    have hZ1 : A3.cell? ⟨w3.heap.size, 0, none⟩ = some (.bool z1.neg) ∧ A3.cell? ⟨w3.heap.size, 1, none⟩ = some (.slice z1.a z1.xs.length z1.c) ∧ A3.cell? ⟨w3.heap.size, 2, none⟩ = some (.int .i64 z1.e) := by rw [← hA3]; simp
    clear hA3 ka
    go_fit (D2.out _ k3a)
    rintro e w4 ⟨z2, rfl, rz, dz, vz, k4⟩
    have ka := (Kp.refl w4).alloc (.cells #[.bool z2.neg, .slice z2.a z2.xs.length z2.c, .int .i64 z2.e] 33)
    have k4a := k4.trans ka
    have R2 := Lib.hid (rz.kp ka)
    have Z2 := Lib.hid (And.intro dz (vz K2.out))
    have hZ1b := keep3 k4a hZ1
    have R1b := Lib.hid (R1.out.kp k4a)
    have hV3 := hV2.kp k4a
    have hk4 := hk3.trans k4a
    clear rz dz vz hS2 hV2 hZ1 R1 s0 s1 s2 s3 s4 s5 s6 t0 t1 t2 t3 t4 t5 t6 k4 D1 D2
    obtain ⟨m0, m1, m2⟩ := hZ1b
    go_wp2_with fail
    generalize hA4 : w4.alloc _ = A4 at *
    obtain ⟨n0, n1, n2⟩ : A4.cell? ⟨w4.heap.size, 0, none⟩ = some (.bool z2.neg) ∧ A4.cell? ⟨w4.heap.size, 1, none⟩ = some (.slice z2.a z2.xs.length z2.c) ∧ A4.cell? ⟨w4.heap.size, 2, none⟩ = some (.int .i64 z2.e) := by rw [← hA4]; simp
    clear hA4 ka
    go_fit (made_any z1 z2 _ _ _)
    rintro e w5 ⟨rfl, k5⟩
    have hk5 := hk4.trans k5
    obtain ⟨⟨q0, q1, q2, q3, q4, q5, q6⟩, f0, f1, f2, f3, f4, f5, f6⟩ := hV3.kp k5
    have R3 := Lib.hid (madeR_rd (e := L.2) (f := H.2) (R1b.out.kp k5) (R2.out.kp k5))
    have Zp := Lib.hid (madeR_pl (l := L) (h := H) Z1.out.1 Z2.out.1)
    have Zv := Lib.hid (madeR_vl (l := L) (h := H) Z1.out.1 Z2.out.1 Z1.out.2 Z2.out.2 HOK2.out)
    clear m0 m1 m2 n0 n1 n2 hV3
    generalize madeR z1 z2 L.2 H.2 = Z at *
    go_wp2_with fail
    generalize hW9 : ((((((w5.setCell _ _).setCell _ _).setCell _ _).setCell _ _).setCell _ _).setCell _ _).setCell _ _ = W9
    obtain ⟨⟨s0, s1, s2, s3, s4, s5, s6⟩, hU⟩ := stored7 (show Box7 w5 _ _ _ _ _ _ _ _ from ⟨q0, q1, q2, q3, q4, q5, q6⟩) (fun _ h => by cases h) (fun _ h => by cases h) (fun _ h => by cases h) (fun _ h => by cases h) (fun _ h => by cases h) (fun _ h => by cases h) (fun _ h => by cases h) _ _ _ _ _ _ _ hW9
    clear hW9 q0 q1 q2 q3 q4 q5 q6 f0 f1 f2 f3 f4 f5 f6
    refine bodyPost_ret (v := .agg #[.bool Z.lo.neg, .slice Z.lo.a Z.lo.xs.length Z.lo.c, .int .i64 Z.lo.e, .bool Z.hi.neg, .slice Z.hi.a Z.hi.xs.length Z.hi.c, .int .i64 Z.hi.e, .bool Z.all]) (by simp [results, Tryz.results80, go_sem, s0, s1, s2, s3, s4, s5, s6]) rfl ?_
    rw [HP.out]
    exact ⟨Z, rfl, hU.rdI R3.out, Zp.out, Zv.out, hU.2.2.1 _ hk5 (by omega)⟩
end Go.Proofs.YtdlpiblgkpgplaaGreatDoor
end

section
namespace Go.Proofs.YtdlpiblgkpgplaaGreatDoor
open Go.RowKit

end Go.Proofs.YtdlpiblgkpgplaaGreatDoor
end

section
namespace Go.Proofs.YtdlpiblgkpgplaaGreatDoor
open Go.RowKit

end Go.Proofs.YtdlpiblgkpgplaaGreatDoor
end

section
namespace Go.Proofs.YtdlpiblgkpgplaaGreatDoor
open Go.RowKit

end Go.Proofs.YtdlpiblgkpgplaaGreatDoor
end

section
namespace Go.Proofs.YtdlpiblgkpgplaaGreatDoor
open Go.RowKit

theorem mulDown_ok (a b : RD) {p : Nat} (h0 : 8 ≤ p) (h1 : p ≤ 512) (W : World) (ha : a.ok W) (hb : b.ok W) (hT : Tab W) :
    Calls Tryz.prog 143 #[.agg #[.bool a.neg, .slice a.a a.xs.length a.c, .int .i64 a.e], .agg #[.bool b.neg, .slice b.a b.xs.length b.c, .int .i64 b.e], .int .i64 p] W (NumE W (muP a.dy b.dy p false).1 (muP a.dy b.dy p false).2) := by
  have := rMulDown_of a b (p : Int) _ _ W (fun W' k' => mul_rd a b p false W' (ha.1.kp k') (hb.1.kp k') (hT.kp k'))
  rwa [mulB_dy ha hb h0 h1 false] at this
theorem mulUp_ok (a b : RD) {p : Nat} (h0 : 8 ≤ p) (h1 : p ≤ 512) (W : World) (ha : a.ok W) (hb : b.ok W) (hT : Tab W) :
    Calls Tryz.prog 144 #[.agg #[.bool a.neg, .slice a.a a.xs.length a.c, .int .i64 a.e], .agg #[.bool b.neg, .slice b.a b.xs.length b.c, .int .i64 b.e], .int .i64 p] W (NumE W (muP a.dy b.dy p true).1 (muP a.dy b.dy p true).2) := by
  have := rMulUp_of a b (p : Int) _ _ W (fun W' k' => mul_rd a b p true W' (ha.1.kp k') (hb.1.kp k') (hT.kp k'))
  rwa [mulB_dy ha hb h0 h1 true] at this
/-- the pairs of the ends -/
def pairR (x y : RI) : List (RD × RD) := [(x.lo, y.lo), (x.lo, y.hi), (x.hi, y.lo), (x.hi, y.hi)]
/-- the cells of the array of the pairs -/
def pairCs (x y : RI) : Array Value := #[.bool x.lo.neg, .slice x.lo.a x.lo.xs.length x.lo.c, .int .i64 x.lo.e, .bool y.lo.neg, .slice y.lo.a y.lo.xs.length y.lo.c, .int .i64 y.lo.e, .bool x.lo.neg, .slice x.lo.a x.lo.xs.length x.lo.c, .int .i64 x.lo.e, .bool y.hi.neg, .slice y.hi.a y.hi.xs.length y.hi.c, .int .i64 y.hi.e, .bool x.hi.neg, .slice x.hi.a x.hi.xs.length x.hi.c, .int .i64 x.hi.e, .bool y.lo.neg, .slice y.lo.a y.lo.xs.length y.lo.c, .int .i64 y.lo.e, .bool x.hi.neg, .slice x.hi.a x.hi.xs.length x.hi.c, .int .i64 x.hi.e, .bool y.hi.neg, .slice y.hi.a y.hi.xs.length y.hi.c, .int .i64 y.hi.e]
theorem pairR_ok {w : World} {x y : RI} (ox : x.ok w) (oy : y.ok w) {k : Nat} {q : RD × RD} (h : (pairR x y)[k]? = some q) : q.1.ok w ∧ q.2.ok w := by
  have hm := List.mem_of_getElem? h
  simp only [pairR, List.mem_cons, List.not_mem_nil, or_false] at hm
  rcases hm with rfl | rfl | rfl | rfl
  · exact ⟨ox.lo, oy.lo⟩
  · exact ⟨ox.lo, oy.hi⟩
  · exact ⟨ox.hi, oy.lo⟩
  · exact ⟨ox.hi, oy.hi⟩
theorem index4c (cs : Array Value) (k : Nat) (hk : k < 4) (w : World) :
    (Instr.index 139 (.agg cs) (.int .i64 k)).run Tryz.prog w = .ok (.agg (cs.extract (k * 6) (k * 6 + 6))) w := by
  have h : (0 : Int) ≤ k ∧ (k : Int) < (4 : Nat) := by omega
  simp [Instr.index, run_underlying Tryz.underlying139, asIntOf, h, go_sem]
  intro h4; omega
theorem index4 (x y : RI) (k : Nat) (q : RD × RD) (h : (pairR x y)[k]? = some q) (w : World) :
    (Instr.index 139 (.agg (pairCs x y)) (.int .i64 k)).run Tryz.prog w = .ok (.agg #[.bool q.1.neg, .slice q.1.a q.1.xs.length q.1.c, .int .i64 q.1.e, .bool q.2.neg, .slice q.2.a q.2.xs.length q.2.c, .int .i64 q.2.e]) w := by
  have hk : k < 4 := (List.getElem?_eq_some_iff.1 h).1
  rw [index4c _ _ hk]
  match k, h with
  | 0, h => cases h; rfl
  | 1, h => cases h; rfl
  | 2, h => cases h; rfl
  | 3, h => cases h; rfl
  | k + 4, h => simp [pairR] at h
/-- the array of the pairs is built -/
theorem build4 (a0 a1 a2 a3 a4 a5 b0 b1 b2 b3 b4 b5 c0 c1 c2 c3 c4 c5 d0 d1 d2 d3 d4 d5 : Value) (w : World) :
    (Instr.build 139 #[(0, .agg #[a0, a1, a2, a3, a4, a5]), (1, .agg #[b0, b1, b2, b3, b4, b5]), (2, .agg #[c0, c1, c2, c3, c4, c5]), (3, .agg #[d0, d1, d2, d3, d4, d5])]).run Tryz.prog w = .ok (.agg #[a0, a1, a2, a3, a4, a5, b0, b1, b2, b3, b4, b5, c0, c1, c2, c3, c4, c5, d0, d1, d2, d3, d4, d5]) w := by kernel_rfl
theorem wpList_build4 {w : World} {ops : Array Oper} {rest : List Oper} {o : Oper} {a : Act} {Q : Exit → Act → World → Prop} (hgd : o.guard = none) (x0 x1 x2 x3 : Operand)
    (ho : o.op = .build 139 #[(0, x0), (1, x1), (2, x2), (3, x3)]) (x y : RI)
    (h0 : a.eval x0 = .agg #[.bool x.lo.neg, .slice x.lo.a x.lo.xs.length x.lo.c, .int .i64 x.lo.e, .bool y.lo.neg, .slice y.lo.a y.lo.xs.length y.lo.c, .int .i64 y.lo.e]) (h1 : a.eval x1 = .agg #[.bool x.lo.neg, .slice x.lo.a x.lo.xs.length x.lo.c, .int .i64 x.lo.e, .bool y.hi.neg, .slice y.hi.a y.hi.xs.length y.hi.c, .int .i64 y.hi.e])
    (h2 : a.eval x2 = .agg #[.bool x.hi.neg, .slice x.hi.a x.hi.xs.length x.hi.c, .int .i64 x.hi.e, .bool y.lo.neg, .slice y.lo.a y.lo.xs.length y.lo.c, .int .i64 y.lo.e]) (h3 : a.eval x3 = .agg #[.bool x.hi.neg, .slice x.hi.a x.hi.xs.length x.hi.c, .int .i64 x.hi.e, .bool y.hi.neg, .slice y.hi.a y.hi.xs.length y.hi.c, .int .i64 y.hi.e])
    (h : wpList Tryz.prog ops Q rest (a.put o.dst (.agg (pairCs x y))) w) : wpList Tryz.prog ops Q (o :: rest) a w :=
  wpList_plain hgd fun _ hK => by
    unfold Oper.wp execOp
    have e : (#[(0, x0), (1, x1), (2, x2), (3, x3)].map fun (i, x) => ((i : Nat), a.eval x)) = #[(0, a.eval x0), (1, a.eval x1), (2, a.eval x2), (3, a.eval x3)] := by simp
    simp only [ho, e, h0, h1, h2, h3, build4, Sem.run_bind, Result.andThen_ok]
    exact hK _ _ h
theorem wpList_storePairs {w : World} {ops : Array Oper} {rest : List Oper} {o : Oper} {a : Act} {Q : Exit → Act → World → Prop} (hgd : o.guard = none) (x1 y1 : Operand)
    (ho : o.op = .store 139 x1 y1) (x y : RI) (g : Nat) (hx : a.eval x1 = .pointer (some ⟨g, 0, none⟩)) (hy : a.eval y1 = .agg (pairCs x y))
    (old : Array Value) (hg : w.heap[g]? = some (.cells old 139 (0, 0))) (hold : old.size = 24)
    (h : wpList Tryz.prog ops Q rest (a.put o.dst undef) (w.setRow g (pairCs x y))) : wpList Tryz.prog ops Q (o :: rest) a w :=
  wpList_store_row hgd 139 x1 y1 ho g (pairCs x y) hx hy 139 old hg (show (Tryz.prog.info? 139).map (·.size) = some 24 by kernel_rfl) hold (by simp [pairCs, Value.oneCell']) h
/-- the pairs that are behind, as four has them -/
def accP (k : Nat) (lo hi : RD) : Option (Dy × Dy) := if k = 0 then none else some (lo.dy, hi.dy)
def opP (p : Nat) : Dy → Dy → Bool → Dy × Int := fun a b up => muP a b p up
def restP (x y : RI) (k : Nat) : List (Dy × Dy) := ((pairR x y).map (fun q => (q.1.dy, q.2.dy))).drop k
theorem restP_cons {x y : RI} {k : Nat} {q : RD × RD} (h : (pairR x y)[k]? = some q) : restP x y k = (q.1.dy, q.2.dy) :: restP x y (k + 1) := by
  unfold restP
  obtain ⟨hk, e⟩ := List.getElem?_eq_some_iff.1 h
  rw [List.drop_eq_getElem_cons (by simpa using hk), List.getElem_map, e]
theorem four_err {p : Nat} {x y : RI} {k : Nat} {q : RD × RD} {acc : Option (Dy × Dy)} (h : (pairR x y)[k]? = some q) (e : (muP q.1.dy q.2.dy p false).2 ≠ 0 ∨ (muP q.1.dy q.2.dy p true).2 ≠ 0) : fourP (opP p) (restP x y k) acc = .whole := by
  rw [restP_cons h]; unfold fourP; exact if_pos e
theorem four_first {p : Nat} {x y : RI} {q : RD × RD} {lo hi l u : RD} (h : (pairR x y)[0]? = some q) (e1 : (muP q.1.dy q.2.dy p false).2 = 0) (e2 : (muP q.1.dy q.2.dy p true).2 = 0)
    (d1 : l.dy = (muP q.1.dy q.2.dy p false).1) (d2 : u.dy = (muP q.1.dy q.2.dy p true).1) : fourP (opP p) (restP x y 0) (accP 0 lo hi) = fourP (opP p) (restP x y (0 + 1)) (accP (0 + 1) l u) := by
  rw [restP_cons h]
  have hn : ¬ ((opP p q.1.dy q.2.dy false).2 ≠ 0 ∨ (opP p q.1.dy q.2.dy true).2 ≠ 0) := by unfold opP; omega
  show fourP (opP p) ((q.1.dy, q.2.dy) :: restP x y (0 + 1)) none = fourP (opP p) (restP x y (0 + 1)) (some (l.dy, u.dy))
  rw [fourP, if_neg hn, d1, d2]
  rfl
theorem four_next {p : Nat} {x y : RI} {k : Nat} {q : RD × RD} {lo hi l u : RD} (h : (pairR x y)[k]? = some q) (hk : k ≠ 0) (e1 : (muP q.1.dy q.2.dy p false).2 = 0) (e2 : (muP q.1.dy q.2.dy p true).2 = 0)
    (d1 : l.dy = (if (muP q.1.dy q.2.dy p false).1.iv < lo.iv then (muP q.1.dy q.2.dy p false).1 else lo.dy)) (d2 : u.dy = (if hi.iv < (muP q.1.dy q.2.dy p true).1.iv then (muP q.1.dy q.2.dy p true).1 else hi.dy)) : fourP (opP p) (restP x y k) (accP k lo hi) = fourP (opP p) (restP x y (k + 1)) (accP (k + 1) l u) := by
  rw [restP_cons h]
  have hn : ¬ ((opP p q.1.dy q.2.dy false).2 ≠ 0 ∨ (opP p q.1.dy q.2.dy true).2 ≠ 0) := by unfold opP; omega
  have ha : accP k lo hi = some (lo.dy, hi.dy) := by unfold accP; rw [if_neg hk]
  have hb : accP (k + 1) l u = some (l.dy, u.dy) := by unfold accP; rw [if_neg (by omega)]
  rw [ha, hb, fourP, if_neg hn, d1, d2]
  rfl
theorem four_round {p : Nat} {x y : RI} {k : Nat} {a b lo hi l u z1 z2 : RD} (h : (pairR x y)[k]? = some (a, b)) (e1 : (muP a.dy b.dy p false).2 = 0) (e2 : (muP a.dy b.dy p true).2 = 0)
    (d1 : z1.dy = (muP a.dy b.dy p false).1) (d2 : z2.dy = (muP a.dy b.dy p true).1) (hl : (k = 0 ∨ z1.iv < lo.iv → l.dy = z1.dy) ∧ (¬ (k = 0 ∨ z1.iv < lo.iv) → l.dy = lo.dy))
    (hu : (k = 0 ∨ hi.iv < z2.iv → u.dy = z2.dy) ∧ (¬ (k = 0 ∨ hi.iv < z2.iv) → u.dy = hi.dy)) (hle : lo.iv ≤ hi.iv) (h0 : 8 ≤ p) (h1 : p ≤ 512) :
    fourP (opP p) (restP x y k) (accP k lo hi) = fourP (opP p) (restP x y (k + 1)) (accP (k + 1) l u) ∧ l.iv ≤ u.iv := by
  have hm := muP_le a.dy b.dy h0 h1 e1 e2
  have i1 : z1.iv = (muP a.dy b.dy p false).1.iv := congrArg Dy.iv d1
  have i2 : z2.iv = (muP a.dy b.dy p true).1.iv := congrArg Dy.iv d2
  constructor
  · by_cases hk : k = 0
    · subst hk
      exact four_first h e1 e2 ((hl.1 (.inl rfl)).trans d1) ((hu.1 (.inl rfl)).trans d2)
    · refine four_next h hk e1 e2 ?_ ?_
      · show l.dy = if (muP a.dy b.dy p false).1.iv < lo.iv then (muP a.dy b.dy p false).1 else lo.dy
        split
        · next hc => exact (hl.1 (.inr (by omega))).trans d1
        · next hc => exact hl.2 (by omega)
      · show u.dy = if hi.iv < (muP a.dy b.dy p true).1.iv then (muP a.dy b.dy p true).1 else hi.dy
        split
        · next hc => exact (hu.1 (.inr (by omega))).trans d2
        · next hc => exact hu.2 (by omega)
  · have il : l.iv = z1.iv ∨ (l.iv = lo.iv ∧ ¬ (k = 0 ∨ z1.iv < lo.iv)) := by
      by_cases hc : k = 0 ∨ z1.iv < lo.iv
      · exact .inl (congrArg Dy.iv (hl.1 hc))
      · exact .inr ⟨congrArg Dy.iv (hl.2 hc), hc⟩
    have iu : u.iv = z2.iv ∨ (u.iv = hi.iv ∧ ¬ (k = 0 ∨ hi.iv < z2.iv)) := by
      by_cases hc : k = 0 ∨ hi.iv < z2.iv
      · exact .inl (congrArg Dy.iv (hu.1 hc))
      · exact .inr ⟨congrArg Dy.iv (hu.2 hc), hc⟩
    omega
theorem four_end {p : Nat} {x y : RI} {lo hi : RD} : fourP (opP p) (restP x y 4) (accP 4 lo hi) = ⟨lo.dy, hi.dy, false⟩ := rfl
/-- the lower end is stored -/
theorem stored70 {w : World} {g : Nat} {y0 y1 y2 y3 y4 y5 y6 : Value} (h : Box7 w g y0 y1 y2 y3 y4 y5 y6)
    (n0 : ∀ n : Int, y0 ≠ .int .u32 n) (n1 : ∀ n : Int, y1 ≠ .int .u32 n) (n2 : ∀ n : Int, y2 ≠ .int .u32 n) (x0 x1 x2 : Value) (W : World)
    (hW : ((w.setCell ⟨g, 0, none⟩ x0).setCell ⟨g, 1, none⟩ x1).setCell ⟨g, 2, none⟩ x2 = W) : Box7 W g x0 x1 x2 y3 y4 y5 y6 ∧ Upd g w W := by
  obtain ⟨h0, h1, h2, h3, h4, h5, h6⟩ := h
  have a1 := set_at (i := 0) (v := x0) (by decide) h1
  have a2 := set_at (i := 1) (v := x1) (by decide) (set_at (i := 0) (v := x0) (by decide) h2)
  have U := (((Upd.refl g w).step h0 n0 x0).step a1 n1 x1).step a2 n2 x2
  rw [← hW]
  refine ⟨⟨?_, ?_, cell_set_eq a2, ?_, ?_, ?_, ?_⟩, U⟩
  · exact set_at (by decide) (set_at (by decide) (cell_set_eq h0))
  · exact set_at (by decide) (cell_set_eq a1)
  · exact set_at (by decide) (set_at (by decide) (set_at (by decide) h3))
  · exact set_at (by decide) (set_at (by decide) (set_at (by decide) h4))
  · exact set_at (by decide) (set_at (by decide) (set_at (by decide) h5))
  · exact set_at (by decide) (set_at (by decide) (set_at (by decide) h6))
/-- the upper end is stored -/
theorem stored73 {w : World} {g : Nat} {y0 y1 y2 y3 y4 y5 y6 : Value} (h : Box7 w g y0 y1 y2 y3 y4 y5 y6)
    (n3 : ∀ n : Int, y3 ≠ .int .u32 n) (n4 : ∀ n : Int, y4 ≠ .int .u32 n) (n5 : ∀ n : Int, y5 ≠ .int .u32 n) (x3 x4 x5 : Value) (W : World)
    (hW : ((w.setCell ⟨g, 3, none⟩ x3).setCell ⟨g, 4, none⟩ x4).setCell ⟨g, 5, none⟩ x5 = W) : Box7 W g y0 y1 y2 x3 x4 x5 y6 ∧ Upd g w W := by
  obtain ⟨h0, h1, h2, h3, h4, h5, h6⟩ := h
  have a4 := set_at (i := 3) (v := x3) (by decide) h4
  have a5 := set_at (i := 4) (v := x4) (by decide) (set_at (i := 3) (v := x3) (by decide) h5)
  have U := (((Upd.refl g w).step h3 n3 x3).step a4 n4 x4).step a5 n5 x5
  rw [← hW]
  refine ⟨⟨?_, ?_, ?_, ?_, ?_, cell_set_eq a5, ?_⟩, U⟩
  · exact set_at (by decide) (set_at (by decide) (set_at (by decide) h0))
  · exact set_at (by decide) (set_at (by decide) (set_at (by decide) h1))
  · exact set_at (by decide) (set_at (by decide) (set_at (by decide) h2))
  · exact set_at (by decide) (set_at (by decide) (cell_set_eq h3))
  · exact set_at (by decide) (cell_set_eq a4)
  · exact set_at (by decide) (set_at (by decide) (set_at (by decide) h6))
theorem Upd.frz {g b : Nat} {w W : World} (h : Upd g w W) (f : Frz w b) : Frz W b := by
  obtain ⟨h1, _⟩ := h
  unfold Frz
  simp only [h1]
  exact f
theorem Upd.okD {g : Nat} {w W : World} (h : Upd g w W) {x : RD} (hx : x.ok w) : x.ok W := ⟨h.rdD hx.1, hx.2⟩
end Go.Proofs.YtdlpiblgkpgplaaGreatDoor
end
