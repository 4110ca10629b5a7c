/-
  Walks: dyadic.Add and Mul of any numbers; the law RoundExact.
-/
import Derived.Test.YtkkiinbgjjjcoaaDoorMProdP
namespace Go.Proofs.YtkkiinbgjjjcoaaDoor
open Go.RowKit

set_option maxHeartbeats 2000000 in
theorem Add_raw (x y : RD) (w : World) (hx : x.rd w) (hy : y.rd w) (hT : Tab w) :
    Calls Tryd.prog 27 #[.agg #[.bool x.neg, .slice x.a x.xs.length x.c, .int .i64 x.e], .agg #[.bool y.neg, .slice y.a y.xs.length y.c, .int .i64 y.e]] w (NumE w (addX x y).1 (addX x y).2) := by
  cases hvx : x.vl with
  | true =>
    cases hvy : y.vl with
    | true =>
      have := Add_rd x y w ⟨hx, hvx⟩ ⟨hy, hvy⟩ hT
      unfold addX; rw [hvx, hvy]; exact this
    | false =>
      have HD := Lib.hid (show addX x y = (.zero, 1) by unfold addX; rw [hvx, hvy]; rfl)
      have Hx := Lib.hid hvx
      have Hy := Lib.hid hvy
      clear hvx hvy
      rw [HD.out]
      go_enter Tryd.func27, Tryd.ntmps27
      go_wp2_with fail
      generalize hW : (((w.alloc _).alloc _).alloc _) = W at *
      have hk : Kp w W := hW ▸ (((Kp.refl w).alloc _).alloc _).alloc _
      have hS : W.cell? ⟨w.heap.size, 0, none⟩ = some (.bool x.neg) ∧ W.cell? ⟨w.heap.size, 1, none⟩ = some (.slice x.a x.xs.length x.c) ∧ W.cell? ⟨w.heap.size, 2, none⟩ = some (.int .i64 x.e) ∧ W.cell? ⟨w.heap.size + 1, 0, none⟩ = some (.bool y.neg) ∧ W.cell? ⟨w.heap.size + 1, 1, none⟩ = some (.slice y.a y.xs.length y.c) ∧ W.cell? ⟨w.heap.size + 1, 2, none⟩ = some (.int .i64 y.e) := by rw [← hW]; exact keep6 ((Kp.refl _).alloc _) (by simp)
      have hB : Box3 W (w.heap.size + 2) (.bool false) (.slice none 0 0) (.int .i64 0) := hW ▸ Box3.new3 _ _ _ _ _ _ _
      clear hW
      refine (Valid_raw x _ (hx.kp hk)).mono ?_
      rw [Hx.out]
      rintro e w1 ⟨rfl, hk1⟩
      have hS1 := keepRR hk1 hS
      have hB1 := hB.kp hk1
      have hk2 := hk.trans hk1
      clear hS hk hk1 hB
      go_wp2_with fail
      refine (Valid_raw y _ (hy.kp hk2)).mono ?_
      rw [Hy.out]
      rintro e w2 ⟨rfl, hk3⟩
      have hkk := hk2.trans hk3
      obtain ⟨q0, q1, q2, f0, f1, f2⟩ := hB1.kp hk3
      clear hS1 hB1 hk2 hk3
      go_wp2_with fail
      have hst := stored q0 q1 q2 (fun _ h => by cases h) (fun _ h => by cases h) (fun _ h => by cases h) (.bool false) (.slice none 0 0) (.int .i64 0)
      generalize (((w2.setCell _ _).setCell _ _).setCell _ _) = W9 at hst ⊢
      obtain ⟨s0, s1, s2, _, s4, s5, _, _⟩ := hst
      refine bodyPost_ret (v := .tuple #[.agg #[.bool false, .slice none 0 0, .int .i64 0], .int .i64 1]) (by simp [results, Tryd.results27, go_sem, s0, s1, s2]) rfl ?_
      exact numE_zero rfl (s5 _ hkk (by omega))
  | false =>
    have HD := Lib.hid (show addX x y = (.zero, 1) by unfold addX; rw [hvx]; rfl)
    have Hx := Lib.hid hvx
    clear hvx
    rw [HD.out]
    go_enter Tryd.func27, Tryd.ntmps27
    go_wp2_with fail
    generalize hW : (((w.alloc _).alloc _).alloc _) = W at *
    have hk : Kp w W := hW ▸ (((Kp.refl w).alloc _).alloc _).alloc _
    have hB : Box3 W (w.heap.size + 2) (.bool false) (.slice none 0 0) (.int .i64 0) := hW ▸ Box3.new3 _ _ _ _ _ _ _
    clear hW
    refine (Valid_raw x _ (hx.kp hk)).mono ?_
    rw [Hx.out]
    rintro e w2 ⟨rfl, hk3⟩
    have hkk := hk.trans hk3
    obtain ⟨q0, q1, q2, f0, f1, f2⟩ := hB.kp hk3
    clear hB hk hk3
    go_wp2_with fail
    have hst := stored q0 q1 q2 (fun _ h => by cases h) (fun _ h => by cases h) (fun _ h => by cases h) (.bool false) (.slice none 0 0) (.int .i64 0)
    generalize (((w2.setCell _ _).setCell _ _).setCell _ _) = W9 at hst ⊢
    obtain ⟨s0, s1, s2, _, s4, s5, _, _⟩ := hst
    refine bodyPost_ret (v := .tuple #[.agg #[.bool false, .slice none 0 0, .int .i64 0], .int .i64 1]) (by simp [results, Tryd.results27, go_sem, s0, s1, s2]) rfl ?_
    exact numE_zero rfl (s5 _ hkk (by omega))
set_option maxHeartbeats 2000000 in
theorem Mul_raw (x y : RD) (w : World) (hx : x.rd w) (hy : y.rd w) (hT : Tab w) :
    Calls Tryd.prog 28 #[.agg #[.bool x.neg, .slice x.a x.xs.length x.c, .int .i64 x.e], .agg #[.bool y.neg, .slice y.a y.xs.length y.c, .int .i64 y.e]] w (NumE w (mulX x y).1 (mulX x y).2) := by
  cases hvx : x.vl with
  | true =>
    cases hvy : y.vl with
    | true =>
      have := Mul_rd x y w ⟨hx, hvx⟩ ⟨hy, hvy⟩ hT
      unfold mulX; rw [hvx, hvy]; exact this
    | false =>
      have HD := Lib.hid (show mulX x y = (.zero, 1) by unfold mulX; rw [hvx, hvy]; rfl)
      have Hx := Lib.hid hvx
      have Hy := Lib.hid hvy
      clear hvx hvy
      rw [HD.out]
      go_enter Tryd.func28, Tryd.ntmps28
      go_wp2_with fail
      generalize hW : (((w.alloc _).alloc _).alloc _) = W at *
      have hk : Kp w W := hW ▸ (((Kp.refl w).alloc _).alloc _).alloc _
      have hS : W.cell? ⟨w.heap.size, 0, none⟩ = some (.bool x.neg) ∧ W.cell? ⟨w.heap.size, 1, none⟩ = some (.slice x.a x.xs.length x.c) ∧ W.cell? ⟨w.heap.size, 2, none⟩ = some (.int .i64 x.e) ∧ W.cell? ⟨w.heap.size + 1, 0, none⟩ = some (.bool y.neg) ∧ W.cell? ⟨w.heap.size + 1, 1, none⟩ = some (.slice y.a y.xs.length y.c) ∧ W.cell? ⟨w.heap.size + 1, 2, none⟩ = some (.int .i64 y.e) := by rw [← hW]; exact keep6 ((Kp.refl _).alloc _) (by simp)
      have hB : Box3 W (w.heap.size + 2) (.bool false) (.slice none 0 0) (.int .i64 0) := hW ▸ Box3.new3 _ _ _ _ _ _ _
      clear hW
      refine (Valid_raw x _ (hx.kp hk)).mono ?_
      rw [Hx.out]
      rintro e w1 ⟨rfl, hk1⟩
      have hS1 := keepRR hk1 hS
      have hB1 := hB.kp hk1
      have hk2 := hk.trans hk1
      clear hS hk hk1 hB
      obtain ⟨s0, s1, s2, t0, t1, t2⟩ := hS1
      go_wp2_with fail
      refine (Valid_raw y _ (hy.kp hk2)).mono ?_
      rw [Hy.out]
      rintro e w2 ⟨rfl, hk3⟩
      have hkk := hk2.trans hk3
      obtain ⟨q0, q1, q2, f0, f1, f2⟩ := hB1.kp hk3
      clear s0 s1 s2 t0 t1 t2 hB1 hk2 hk3
      go_wp2_with fail
      have hst := stored q0 q1 q2 (fun _ h => by cases h) (fun _ h => by cases h) (fun _ h => by cases h) (.bool false) (.slice none 0 0) (.int .i64 0)
      generalize (((w2.setCell _ _).setCell _ _).setCell _ _) = W9 at hst ⊢
      obtain ⟨s0, s1, s2, _, s4, s5, _, _⟩ := hst
      refine bodyPost_ret (v := .tuple #[.agg #[.bool false, .slice none 0 0, .int .i64 0], .int .i64 1]) (by simp [results, Tryd.results28, go_sem, s0, s1, s2]) rfl ?_
      exact numE_zero rfl (s5 _ hkk (by omega))
  | false =>
    have HD := Lib.hid (show mulX x y = (.zero, 1) by unfold mulX; rw [hvx]; rfl)
    have Hx := Lib.hid hvx
    clear hvx
    rw [HD.out]
    go_enter Tryd.func28, Tryd.ntmps28
    go_wp2_with fail
    generalize hW : (((w.alloc _).alloc _).alloc _) = W at *
    have hk : Kp w W := hW ▸ (((Kp.refl w).alloc _).alloc _).alloc _
    have hB : Box3 W (w.heap.size + 2) (.bool false) (.slice none 0 0) (.int .i64 0) := hW ▸ Box3.new3 _ _ _ _ _ _ _
    clear hW
    refine (Valid_raw x _ (hx.kp hk)).mono ?_
    rw [Hx.out]
    rintro e w2 ⟨rfl, hk3⟩
    have hkk := hk.trans hk3
    obtain ⟨q0, q1, q2, f0, f1, f2⟩ := hB.kp hk3
    clear hB hk hk3
    go_wp2_with fail
    have hst := stored q0 q1 q2 (fun _ h => by cases h) (fun _ h => by cases h) (fun _ h => by cases h) (.bool false) (.slice none 0 0) (.int .i64 0)
    generalize (((w2.setCell _ _).setCell _ _).setCell _ _) = W9 at hst ⊢
    obtain ⟨s0, s1, s2, _, s4, s5, _, _⟩ := hst
    refine bodyPost_ret (v := .tuple #[.agg #[.bool false, .slice none 0 0, .int .i64 0], .int .i64 1]) (by simp [results, Tryd.results28, go_sem, s0, s1, s2]) rfl ?_
    exact numE_zero rfl (s5 _ hkk (by omega))
/-- what the law's check is given -/
def Fit (p : Int) (s lo hi : RD) (e f g : Int) : Prop :=
  e = 0 → s.vl = true ∧ lo.vl = true ∧ hi.vl = true ∧ lo.dy = (rndB s p false).1 ∧ f = (rndB s p false).2 ∧ hi.dy = (rndB s p true).1 ∧ g = (rndB s p true).2
set_option maxRecDepth 100000 in
set_option maxHeartbeats 8000000 in
theorem check_any (s lo hi : RD) (ex f g p : Int) (b : Nat) (w : World) (hs : s.rd w) (hlo : lo.rd w) (hhi : hi.rd w) (hp : w.cell? ⟨b, 0, none⟩ = some (.int .i64 p)) (hT : Tab w) (H : Fit p s lo hi ex f g) :
    Calls Tryd.prog 26 #[.agg #[.bool s.neg, .slice s.a s.xs.length s.c, .int .i64 s.e], .int .i64 ex, .agg #[.bool lo.neg, .slice lo.a lo.xs.length lo.c, .int .i64 lo.e], .int .i64 f, .agg #[.bool hi.neg, .slice hi.a hi.xs.length hi.c, .int .i64 hi.e], .int .i64 g, .pointer (some ⟨b, 0, none⟩)] w fun e w' => e = .returned (.bool true) ∧ Kp w w' := by
  by_cases he : ex = 0
  · obtain ⟨hv, vl, vh, dl, el, dh, eh⟩ := H he
    subst he
    subst el
    subst eh
    have HL := Lib.hid (And.intro dl dh)
    have VL := Lib.hid (And.intro vl vh)
    clear H dl dh vl vh
    have hgl := World.block_lt_of_cell? w _ hp
    have hP := ((((Kp.refl w).alloc (.cells #[.bool s.neg, .slice s.a s.xs.length s.c, .int .i64 s.e] 24)).alloc (.cells #[.bool lo.neg, .slice lo.a lo.xs.length lo.c, .int .i64 lo.e] 24)).alloc (.cells #[.bool hi.neg, .slice hi.a hi.xs.length hi.c, .int .i64 hi.e] 24)).cell hp
    clear hp
    go_enter Tryd.func26, Tryd.ntmps26
    go_wp2_with fail
    generalize hW : (((w.alloc _).alloc _).alloc _) = W at *
    have hk : Kp w W := hW ▸ (((Kp.refl w).alloc _).alloc _).alloc _
    have hS : W.cell? ⟨w.heap.size, 0, none⟩ = some (.bool s.neg) ∧ W.cell? ⟨w.heap.size, 1, none⟩ = some (.slice s.a s.xs.length s.c) ∧ W.cell? ⟨w.heap.size, 2, none⟩ = some (.int .i64 s.e) := by rw [← hW]; exact keep3 (((Kp.refl _).alloc _).alloc _) (by simp)
    have hB1 : Box3 W (w.heap.size + 1) (.bool lo.neg) (.slice lo.a lo.xs.length lo.c) (.int .i64 lo.e) := hW ▸ (Box3.new2 _ _ _ _ _ _).kp ((Kp.refl _).alloc _)
    have hB2 : Box3 W (w.heap.size + 2) (.bool hi.neg) (.slice hi.a hi.xs.length hi.c) (.int .i64 hi.e) := hW ▸ Box3.new3 _ _ _ _ _ _ _
    obtain ⟨l0, l1, l2, _, _, _⟩ := hB1
    obtain ⟨m0, m1, m2, _, _, _⟩ := hB2
    have hL : W.cell? ⟨w.heap.size + 1, 0, none⟩ = some (.bool lo.neg) ∧ W.cell? ⟨w.heap.size + 1, 1, none⟩ = some (.slice lo.a lo.xs.length lo.c) ∧ W.cell? ⟨w.heap.size + 1, 2, none⟩ = some (.int .i64 lo.e) ∧ W.cell? ⟨w.heap.size + 2, 0, none⟩ = some (.bool hi.neg) ∧ W.cell? ⟨w.heap.size + 2, 1, none⟩ = some (.slice hi.a hi.xs.length hi.c) ∧ W.cell? ⟨w.heap.size + 2, 2, none⟩ = some (.int .i64 hi.e) := ⟨l0, l1, l2, m0, m1, m2⟩
    clear l0 l1 l2 m0 m1 m2
    clear hW hgl
    have hs1 := hs.kp hk
    have hlo1 := hlo.kp hk
    have hhi1 := hhi.kp hk
    have hT1 := hT.kp hk
    clear hs hlo hhi hT
    refine (Down_rd s p _ hs1 hT1).mono ?_
    rintro e w3 ⟨x, rfl, rx, dx, vx, k3⟩
    have ka := (Kp.refl w3).alloc (.cells #[.bool x.neg, .slice x.a x.xs.length x.c, .int .i64 x.e] 24)
    have k3a := k3.trans ka
    have ox := (show x.ok w3 from ⟨rx, vx (rndB_ok s p false)⟩).kp ka
    have DX := Lib.hid dx
    obtain ⟨s0, s1, s2⟩ := keep3 k3a hS
    have hL3 := keepRR k3a hL
    have hP3 := k3a.cell hP
    have hs3 := hs1.kp k3a
    have hlo3 := hlo1.kp k3a
    have hhi3 := hhi1.kp k3a
    have hT3 := hT1.kp k3a
    have h3 := hk.trans k3a
    clear hS hL hP hs1 hlo1 hhi1 hT1 hk k3 k3a rx dx vx
    go_wp2_with fail
    generalize hA3 : w3.alloc _ = A3 at *
    have hZ1 : A3.cell? ⟨w3.heap.size, 0, none⟩ = some (.bool x.neg) ∧ A3.cell? ⟨w3.heap.size, 1, none⟩ = some (.slice x.a x.xs.length x.c) ∧ A3.cell? ⟨w3.heap.size, 2, none⟩ = some (.int .i64 x.e) := by rw [← hA3]; simp
    clear hA3 ka
    refine (Up_rd s p _ hs3 hT3).mono ?_
    rintro e w4 ⟨y, rfl, ry, dy, vy, k4⟩
    clear s0 s1 s2
    have ka := (Kp.refl w4).alloc (.cells #[.bool y.neg, .slice y.a y.xs.length y.c, .int .i64 y.e] 24)
    have k4a := k4.trans ka
    have oy := (show y.ok w4 from ⟨ry, vy (rndB_ok s p true)⟩).kp ka
    have DY := Lib.hid dy
    obtain ⟨a0, a1, a2, b0, b1, b2⟩ := keepRR k4a hL3
    obtain ⟨c0, c1, c2⟩ := keep3 k4a hZ1
    have hlo4 := hlo3.kp k4a
    have hhi4 := hhi3.kp k4a
    have ox4 := ox.kp k4a
    have h4 := h3.trans k4a
    clear hL3 hZ1 hP3 hs3 hlo3 hhi3 hT3 h3 k4 k4a ry dy vy ox
    have HS1 := Lib.hid (sameR_dy (x := lo) (y := x) ⟨hlo4, VL.out.1⟩ ox4 (by rw [HL.out.1, DX.out]))
    have HS2 := Lib.hid (sameR_dy (x := hi) (y := y) ⟨hhi4, VL.out.2⟩ oy (by rw [HL.out.2, DY.out]))
    go_wp2_with fail
    generalize hA4 : w4.alloc _ = A4 at *
    obtain ⟨d0, d1, d2⟩ : A4.cell? ⟨w4.heap.size, 0, none⟩ = some (.bool y.neg) ∧ A4.cell? ⟨w4.heap.size, 1, none⟩ = some (.slice y.a y.xs.length y.c) ∧ A4.cell? ⟨w4.heap.size, 2, none⟩ = some (.int .i64 y.e) := by rw [← hA4]; simp
    clear hA4 ka
    refine (same_any lo x _ hlo4 ox4.1).mono ?_
    rw [HS1.out]
    rintro e w5 ⟨rfl, k5⟩
    have e0 := k5.cell b0
    have e1 := k5.cell b1
    have e2 := k5.cell b2
    have f0 := k5.cell d0
    have f1 := k5.cell d1
    have f2 := k5.cell d2
    clear a0 a1 a2 b0 b1 b2 c0 c1 c2 d0 d1 d2
    go_wp2_with fail
    refine (same_any hi y _ (hhi4.kp k5) (oy.1.kp k5)).mono ?_
    rw [HS2.out]
    rintro e w6 ⟨rfl, k6⟩
    clear e0 e1 e2 f0 f1 f2
    go_wp2_with fail
    go_ret
    exact ⟨rfl, (h4.trans k5).trans k6⟩
  · have hn : (ex != 0) = true := by simpa using he
    clear H he
    go_enter Tryd.func26, Tryd.ntmps26
    go_wp2_with fail
    go_ret
    exact ⟨rfl, (((Kp.refl w).alloc _).alloc _).alloc _⟩
theorem fit_add {w w1 : World} {p : Int} {x y s lo hi : RD} (hx : x.rd w) (hy : y.rd w) (rs : s.rd w1) (es : s.dy = (addX x y).1) (vs : (addX x y).1.ok → s.vl = true)
    (el : lo.dy = (addB x y p false).1) (vl : (addB x y p false).1.ok → lo.vl = true) (eh : hi.dy = (addB x y p true).1) (vh : (addB x y p true).1.ok → hi.vl = true) :
    Fit p s lo hi (addX x y).2 (addB x y p false).2 (addB x y p true).2 := by
  intro h0
  have v := vs (addX_ok x y)
  have h1 := add_exact hx hy ⟨rs, v⟩ h0 es p false
  have h2 := add_exact hx hy ⟨rs, v⟩ h0 es p true
  rw [h1] at el vl ⊢
  rw [h2] at eh vh ⊢
  exact ⟨v, vl (rndB_ok s p false), vh (rndB_ok s p true), el, rfl, eh, rfl⟩
theorem fit_mul {w w1 : World} {p : Int} {x y s lo hi : RD} (hx : x.rd w) (hy : y.rd w) (rs : s.rd w1) (es : s.dy = (mulX x y).1) (vs : (mulX x y).1.ok → s.vl = true)
    (el : lo.dy = (mulB x y p false).1) (vl : (mulB x y p false).1.ok → lo.vl = true) (eh : hi.dy = (mulB x y p true).1) (vh : (mulB x y p true).1.ok → hi.vl = true) :
    Fit p s lo hi (mulX x y).2 (mulB x y p false).2 (mulB x y p true).2 := by
  intro h0
  have v := vs (mulX_ok x y)
  have h1 := mul_exact hx hy ⟨rs, v⟩ h0 es p false
  have h2 := mul_exact hx hy ⟨rs, v⟩ h0 es p true
  rw [h1] at el vl ⊢
  rw [h2] at eh vh ⊢
  exact ⟨v, vl (rndB_ok s p false), vh (rndB_ok s p true), el, rfl, eh, rfl⟩
theorem cell_new1 (w : World) (v : Value) (t : TypeId) : (w.alloc (.cells #[v] t)).cell? ⟨w.heap.size, 0, none⟩ = some v := by simp
theorem cell_new3 (w : World) (o1 o2 : Obj) (v : Value) (t : TypeId) : (((w.alloc o1).alloc o2).alloc (.cells #[v] t)).cell? ⟨w.heap.size + 2, 0, none⟩ = some v := by
  have := cell_new1 ((w.alloc o1).alloc o2) v t
  rwa [World.size_alloc, World.size_alloc] at this
theorem box_set {w : World} {g b : Nat} (n : b ≠ g) {v0 v1 v2 x0 x1 x2 : Value} (h : Box3 w b v0 v1 v2) : Box3 (((w.setCell ⟨g, 0, none⟩ x0).setCell ⟨g, 1, none⟩ x1).setCell ⟨g, 2, none⟩ x2) b v0 v1 v2 := by
  obtain ⟨q0, q1, q2, f0, f1, f2⟩ := h
  obtain ⟨c0, c1, c2⟩ := set3x (x0 := x0) (x1 := x1) (x2 := x2) n ⟨q0, q1, q2⟩
  exact ⟨c0, c1, c2, by simp [f0], by simp [f1], by simp [f2]⟩
theorem Stored.box {w W : World} {g : Nat} {x0 x1 x2 y0 y1 y2 : Value} (hs : Stored g x0 x1 x2 w W) (h : Box3 w g y0 y1 y2) : Box3 W g x0 x1 x2 := by
  obtain ⟨_, _, _, f0, f1, f2⟩ := h
  obtain ⟨a0, a1, a2, a3, _⟩ := hs
  exact ⟨a0, a1, a2, by rw [a3]; exact f0, by rw [a3]; exact f1, by rw [a3]; exact f2⟩
theorem set1 {w : World} {g b : Nat} (n : b ≠ g) {v x0 x1 x2 : Value} (h : w.cell? ⟨b, 0, none⟩ = some v) : (((w.setCell ⟨g, 0, none⟩ x0).setCell ⟨g, 1, none⟩ x1).setCell ⟨g, 2, none⟩ x2).cell? ⟨b, 0, none⟩ = some v := by
  have ne (i j : Nat) : (⟨g, i, none⟩ : Addr) ≠ ⟨b, j, none⟩ := fun e => n (by injection e with e1; exact e1.symm)
  rw [cell_set_ne (ne 2 0), cell_set_ne (ne 1 0), cell_set_ne (ne 0 0)]
  exact h
set_option maxRecDepth 100000 in
set_option maxHeartbeats 16000000 in
theorem Exact_ok (x y : RD) (p : Int) (w : World) (hx : x.rd w) (hy : y.rd w) (hT : Tab w) :
    Calls Tryd.prog 6 #[.agg #[.bool x.neg, .slice x.a x.xs.length x.c, .int .i64 x.e], .agg #[.bool y.neg, .slice y.a y.xs.length y.c, .int .i64 y.e], .int .i64 p] w fun e w' => e = .returned (.bool true) ∧ Kp w w' := by
  go_enter Tryd.func6, Tryd.ntmps6
  go_upto_region 1 with fail
  generalize hW : (((w.alloc _).alloc _).alloc _) = W at *
  have hk : Kp w W := hW ▸ (((Kp.refl w).alloc _).alloc _).alloc _
  have hS : W.cell? ⟨w.heap.size, 0, none⟩ = some (.bool x.neg) ∧ W.cell? ⟨w.heap.size, 1, none⟩ = some (.slice x.a x.xs.length x.c) ∧ W.cell? ⟨w.heap.size, 2, none⟩ = some (.int .i64 x.e) ∧ W.cell? ⟨w.heap.size + 1, 0, none⟩ = some (.bool y.neg) ∧ W.cell? ⟨w.heap.size + 1, 1, none⟩ = some (.slice y.a y.xs.length y.c) ∧ W.cell? ⟨w.heap.size + 1, 2, none⟩ = some (.int .i64 y.e) := by rw [← hW]; exact keep6 ((Kp.refl _).alloc _) (by simp)
  have hP : W.cell? ⟨w.heap.size + 2, 0, none⟩ = some (.int .i64 p) := hW ▸ cell_new3 _ _ _ _ _
  clear hW
  go_cut [15] from 7 (fun s wx => s = .bool false ∧ Kp W wx)
  case first =>
    go_wp2_with fail
    refine (awake3_ok _ (hT.kp hk)).mono ?_
    rintro e w1 ⟨rfl, k1⟩
    go_wp2_with fail
    go_meet
    case rel => exact ⟨rfl, k1⟩
  case rest =>
    obtain ⟨rfl, k1⟩ := hcut
    have hS1 := keepRR k1 hS
    have hP1 := k1.cell hP
    have h1 := hk.trans k1
    have hx1 := hx.kp h1
    have hy1 := hy.kp h1
    have hT1 := hT.kp h1
    clear hk k1 hS hP
    obtain ⟨W1, hW1⟩ : ∃ W1 : World, W1 = wc := ⟨_, rfl⟩
    subst hW1
    by_cases hlx : (60 : Int) < (x.xs.length : Int)
    · obtain ⟨s0, s1, s2, t0, t1, t2⟩ := hS1
      go_wp2_with fail
      go_ret
      exact ⟨rfl, h1⟩
    · by_cases hly : (60 : Int) < (y.xs.length : Int)
      · obtain ⟨s0, s1, s2, t0, t1, t2⟩ := hS1
        go_wp2_with fail
        go_ret
        exact ⟨rfl, h1⟩
      · obtain ⟨s0, s1, s2, t0, t1, t2⟩ := id hS1
        go_wp2_with fail
        refine (Add_raw x y _ hx1 hy1 hT1).mono ?_
        rintro e w2 ⟨z1, rfl, rz1, dz1, vz1, k2⟩
        have ka := (Kp.refl w2).alloc (.cells #[.bool z1.neg, .slice z1.a z1.xs.length z1.c, .int .i64 z1.e] 24)
        have k2a := k2.trans ka
        have rz1a := rz1.kp ka
        have D1 := Lib.hid dz1
        have V1 := Lib.hid vz1
        have hS2 := keepRR k2a hS1
        have hP2 := k2a.cell hP1
        have h2 := h1.trans k2a
        have N1 := Lib.hid (World.block_lt_of_cell? _ _ (k2.cell hP1))
        clear hS1 hP1 h1 hx1 hy1 hT1 k2 rz1 dz1 vz1 k2a s0 s1 s2 t0 t1 t2
        obtain ⟨s0, s1, s2, t0, t1, t2⟩ := id hS2
        go_wp2_with fail
        generalize hA2 : w2.alloc _ = A2 at *
        have hZ1 : Box3 A2 w2.heap.size (.bool z1.neg) (.slice z1.a z1.xs.length z1.c) (.int .i64 z1.e) := hA2 ▸ Box3.new _ _ _ _ _
        clear hA2 ka s0 s1 s2 t0 t1 t2
        refine (rAddDown_of x y p _ _ _ (fun W k => add_rd x y p false W (hx.kp (h2.trans k)) (hy.kp (h2.trans k)) (hT.kp (h2.trans k)))).mono ?_
        rintro e w3 ⟨z2, rfl, rz2, dz2, vz2, k3⟩
        have ka := (Kp.refl w3).alloc (.cells #[.bool z2.neg, .slice z2.a z2.xs.length z2.c, .int .i64 z2.e] 24)
        have k3a := k3.trans ka
        have rz2a := rz2.kp ka
        have D2 := Lib.hid dz2
        have V2 := Lib.hid vz2
        have rz1b := rz1a.kp k3a
        have hS3 := keepRR k3a hS2
        have hP3 := k3a.cell hP2
        have hZ1b := hZ1.kp k3a
        have h3 := h2.trans k3a
        have N2 := Lib.hid (World.block_lt_of_cell? _ _ (hZ1.kp k3).1)
        clear hS2 hP2 h2 k3 rz2 dz2 vz2 k3a rz1a hZ1
        obtain ⟨s0, s1, s2, t0, t1, t2⟩ := id hS3
        go_wp2_with fail
        generalize hA3 : w3.alloc _ = A3 at *
        have hZ2 : Box3 A3 w3.heap.size (.bool z2.neg) (.slice z2.a z2.xs.length z2.c) (.int .i64 z2.e) := hA3 ▸ Box3.new _ _ _ _ _
        clear hA3 ka s0 s1 s2 t0 t1 t2
        refine (rAddUp_of x y p _ _ _ (fun W k => add_rd x y p true W (hx.kp (h3.trans k)) (hy.kp (h3.trans k)) (hT.kp (h3.trans k)))).mono ?_
        rintro e w4 ⟨z3, rfl, rz3, dz3, vz3, k4⟩
        have ka := (Kp.refl w4).alloc (.cells #[.bool z3.neg, .slice z3.a z3.xs.length z3.c, .int .i64 z3.e] 24)
        have k4a := k4.trans ka
        have rz3a := rz3.kp ka
        have D3 := Lib.hid dz3
        have V3 := Lib.hid vz3
        have rz1c := rz1b.kp k4a
        have rz2c := rz2a.kp k4a
        have hS4 := keepRR k4a hS3
        have hP4 := k4a.cell hP3
        have hZ1c := hZ1b.kp k4a
        have hZ2c := hZ2.kp k4a
        have h4 := h3.trans k4a
        have N3 := Lib.hid (World.block_lt_of_cell? _ _ (hZ2.kp k4).1)
        have FT := Lib.hid (fit_add (p := p) hx hy rz1c D1.out V1.out D2.out V2.out D3.out V3.out)
        clear hS3 hP3 h3 k4 rz3 dz3 vz3 k4a rz1b rz2a hZ1b hZ2 D1 V1 D2 V2 D3 V3
        obtain ⟨a0, a1, a2, _, _, _⟩ := id hZ1c
        obtain ⟨b0, b1, b2, _, _, _⟩ := id hZ2c
        go_wp2_with fail
        generalize hA4 : w4.alloc _ = A4 at *
        have hZ3 : Box3 A4 w4.heap.size (.bool z3.neg) (.slice z3.a z3.xs.length z3.c) (.int .i64 z3.e) := hA4 ▸ Box3.new _ _ _ _ _
        clear hA4 ka a0 a1 a2 b0 b1 b2
        refine (check_any z1 z2 z3 _ _ _ p (w.heap.size + 2) _ rz1c rz2c rz3a hP4 (hT.kp h4) FT.out).mono ?_
        rintro e w5 ⟨rfl, k5⟩
        have hS5 := keepRR k5 hS4
        have hP5 := k5.cell hP4
        have Z1 := Lib.hid (hZ1c.kp k5)
        have Z2 := Lib.hid (hZ2c.kp k5)
        have Z3 := Lib.hid (hZ3.kp k5)
        have h5 := h4.trans k5
        have hk5 := Lib.hid h5
        clear hS4 hP4 hZ1c hZ2c hZ3 h4 k5 FT rz1c rz2c rz3a
        obtain ⟨s0, s1, s2, t0, t1, t2⟩ := id hS5
        go_wp2_with fail
        clear s0 s1 s2 t0 t1 t2
        refine (Mul_raw x y _ (hx.kp h5) (hy.kp h5) (hT.kp h5)).mono ?_
        rintro e w6 ⟨y1, rfl, ry1, dy1, vy1, k6⟩
        have g1 : w.heap.size ≠ w2.heap.size := by have := N1.out; omega
        have g2 : w.heap.size + 1 ≠ w2.heap.size := by have := N1.out; omega
        have g3 : w.heap.size + 2 ≠ w2.heap.size := by have := N1.out; omega
        have D1 := Lib.hid dy1
        have V1 := Lib.hid vy1
        have B1 := Z1.out.kp k6
        have B2 := Lib.hid (box_set (x0 := .bool y1.neg) (x1 := .slice y1.a y1.xs.length y1.c) (x2 := .int .i64 y1.e) (show w3.heap.size ≠ w2.heap.size by have := N2.out; omega) (Z2.out.kp k6))
        have B3 := Lib.hid (box_set (x0 := .bool y1.neg) (x1 := .slice y1.a y1.xs.length y1.c) (x2 := .int .i64 y1.e) (show w4.heap.size ≠ w2.heap.size by have := N2.out; have := N3.out; omega) (Z3.out.kp k6))
        have hS6 := setRR (v0 := .bool y1.neg) (v1 := .slice y1.a y1.xs.length y1.c) (v2 := .int .i64 y1.e) g1 g2 (keepRR k6 hS5)
        have hP6 := set1 (x0 := .bool y1.neg) (x1 := .slice y1.a y1.xs.length y1.c) (x2 := .int .i64 y1.e) g3 (k6.cell hP5)
        have h6 := h5.trans k6
        clear g1 g2 g3 hS5 hP5 h5 k6 dy1 vy1 Z1 Z2 Z3 hk5
        obtain ⟨q0, q1, q2, f0, f1, f2⟩ := id B1
        have hst := stored q0 q1 q2 (fun _ h => by cases h) (fun _ h => by cases h) (fun _ h => by cases h) (.bool y1.neg) (.slice y1.a y1.xs.length y1.c) (.int .i64 y1.e)
        obtain ⟨s0, s1, s2, t0, t1, t2⟩ := id hS6
        go_wp2_with fail
        generalize (((w6.setCell _ _).setCell _ _).setCell _ _) = A6 at *
        clear s0 s1 s2 t0 t1 t2 q0 q1 q2 f0 f1 f2
        have C1 := hst.box B1
        obtain ⟨_, _, _, _, s4, s5, _, _⟩ := hst
        have rY1 : y1.rd A6 := ⟨s4 _ _ ry1.1, ry1.2⟩
        have h7 := s5 _ h6 (by have := N1.out; omega)
        clear s4 s5 ry1 h6 B1
        refine (rMulDown_of x y p _ _ _ (fun W k => mul_rd x y p false W (hx.kp (h7.trans k)) (hy.kp (h7.trans k)) (hT.kp (h7.trans k)))).mono ?_
        rintro e w7 ⟨y2, rfl, ry2, dy2, vy2, k7⟩
        have g1 : w.heap.size ≠ w3.heap.size := by have := N1.out; have := N2.out; omega
        have g2 : w.heap.size + 1 ≠ w3.heap.size := by have := N1.out; have := N2.out; omega
        have g3 : w.heap.size + 2 ≠ w3.heap.size := by have := N1.out; have := N2.out; omega
        have D2 := Lib.hid dy2
        have V2 := Lib.hid vy2
        have B2' := B2.out.kp k7
        have C1' := Lib.hid (box_set (x0 := .bool y2.neg) (x1 := .slice y2.a y2.xs.length y2.c) (x2 := .int .i64 y2.e) (show w2.heap.size ≠ w3.heap.size by have := N2.out; omega) (C1.kp k7))
        have B3' := Lib.hid (box_set (x0 := .bool y2.neg) (x1 := .slice y2.a y2.xs.length y2.c) (x2 := .int .i64 y2.e) (show w4.heap.size ≠ w3.heap.size by have := N3.out; omega) (B3.out.kp k7))
        have hS7 := setRR (v0 := .bool y2.neg) (v1 := .slice y2.a y2.xs.length y2.c) (v2 := .int .i64 y2.e) g1 g2 (keepRR k7 hS6)
        have hP7 := set1 (x0 := .bool y2.neg) (x1 := .slice y2.a y2.xs.length y2.c) (x2 := .int .i64 y2.e) g3 (k7.cell hP6)
        have h8 := h7.trans k7
        have rY1' := rY1.kp k7
        clear g1 g2 g3 hS6 hP6 h7 k7 dy2 vy2 B2 B3 C1 rY1
        obtain ⟨q0, q1, q2, f0, f1, f2⟩ := id B2'
        have hst := stored q0 q1 q2 (fun _ h => by cases h) (fun _ h => by cases h) (fun _ h => by cases h) (.bool y2.neg) (.slice y2.a y2.xs.length y2.c) (.int .i64 y2.e)
        obtain ⟨s0, s1, s2, t0, t1, t2⟩ := id hS7
        go_wp2_with fail
        generalize (((w7.setCell _ _).setCell _ _).setCell _ _) = A7 at *
        clear s0 s1 s2 t0 t1 t2 q0 q1 q2 f0 f1 f2
        have C2 := hst.box B2'
        obtain ⟨_, _, _, _, s4, s5, _, _⟩ := hst
        have rY2 : y2.rd A7 := ⟨s4 _ _ ry2.1, ry2.2⟩
        have rY1 : y1.rd A7 := ⟨s4 _ _ rY1'.1, rY1'.2⟩
        have h9 := s5 _ h8 (by have := N1.out; have := N2.out; omega)
        clear s4 s5 ry2 h8 B2' rY1'
        refine (rMulUp_of x y p _ _ _ (fun W k => mul_rd x y p true W (hx.kp (h9.trans k)) (hy.kp (h9.trans k)) (hT.kp (h9.trans k)))).mono ?_
        rintro e w8 ⟨y3, rfl, ry3, dy3, vy3, k8⟩
        have g1 : w.heap.size ≠ w4.heap.size := by have := N1.out; have := N2.out; have := N3.out; omega
        have g2 : w.heap.size + 1 ≠ w4.heap.size := by have := N1.out; have := N2.out; have := N3.out; omega
        have g3 : w.heap.size + 2 ≠ w4.heap.size := by have := N1.out; have := N2.out; have := N3.out; omega
        have D3 := Lib.hid dy3
        have V3 := Lib.hid vy3
        have B3 := B3'.out.kp k8
        have C1 := box_set (x0 := .bool y3.neg) (x1 := .slice y3.a y3.xs.length y3.c) (x2 := .int .i64 y3.e) (show w2.heap.size ≠ w4.heap.size by have := N2.out; have := N3.out; omega) (C1'.out.kp k8)
        have C2' := box_set (x0 := .bool y3.neg) (x1 := .slice y3.a y3.xs.length y3.c) (x2 := .int .i64 y3.e) (show w3.heap.size ≠ w4.heap.size by have := N3.out; omega) (C2.kp k8)
        have hP8 := set1 (x0 := .bool y3.neg) (x1 := .slice y3.a y3.xs.length y3.c) (x2 := .int .i64 y3.e) g3 (k8.cell hP7)
        have h10 := h9.trans k8
        have rY1' := rY1.kp k8
        have rY2' := rY2.kp k8
        have FT := Lib.hid (fit_mul (p := p) hx hy rY1 D1.out V1.out D2.out V2.out D3.out V3.out)
        clear g1 g2 g3 hS7 hP7 h9 k8 dy3 vy3 B3' C1' C2 rY1 rY2 D1 V1 D2 V2 D3 V3
        obtain ⟨q0, q1, q2, f0, f1, f2⟩ := id B3
        have hst := stored q0 q1 q2 (fun _ h => by cases h) (fun _ h => by cases h) (fun _ h => by cases h) (.bool y3.neg) (.slice y3.a y3.xs.length y3.c) (.int .i64 y3.e)
        obtain ⟨a0, a1, a2, _, _, _⟩ := id C1
        obtain ⟨b0, b1, b2, _, _, _⟩ := id C2'
        obtain ⟨c0, c1, c2, _⟩ := id hst
        go_wp2_with fail
        generalize (((w8.setCell _ _).setCell _ _).setCell _ _) = A8 at *
        clear a0 a1 a2 b0 b1 b2 c0 c1 c2 q0 q1 q2 f0 f1 f2
        obtain ⟨_, _, _, _, s4, s5, _, _⟩ := hst
        have rY3 : y3.rd A8 := ⟨s4 _ _ ry3.1, ry3.2⟩
        have rY2 : y2.rd A8 := ⟨s4 _ _ rY2'.1, rY2'.2⟩
        have rY1 : y1.rd A8 := ⟨s4 _ _ rY1'.1, rY1'.2⟩
        have h11 := s5 _ h10 (by have := N1.out; have := N2.out; have := N3.out; omega)
        refine (check_any y1 y2 y3 _ _ _ p (w.heap.size + 2) _ rY1 rY2 rY3 hP8 (hT.kp h11) FT.out).mono ?_
        rintro e w9 ⟨rfl, k9⟩
        go_wp2_with fail
        go_ret
        exact ⟨rfl, h11.trans k9⟩
end Go.Proofs.YtkkiinbgjjjcoaaDoor
