/-
  Walks: dyadic.Add and Mul of any numbers; the law RoundExact.
-/
import Derived.Test.YtndbnfeapdkoaaaDoorMProdP
namespace Go.Proofs.YtndbnfeapdkoaaaDoor
open Go.RowKit

set_option maxHeartbeats 2000000 in
theorem Mul_raw (x y : RD) (w : World) (hx : x.rd w) (hy : y.rd w) (hT : Tab w) :
    Calls Tryd.prog 10 #[.agg #[.bool x.neg, .slice x.a x.xs.length x.c, .int .i64 x.e], .agg #[.bool y.neg, .slice y.a y.xs.length y.c, .int .i64 y.e]] w (NumE w (mulX x y).1 (mulX x y).2) := by
  cases hvx : x.vl with
  | true =>
    cases hvy : y.vl with
    | true =>
      have := Mul_rd x y w ⟨hx, hvx⟩ ⟨hy, hvy⟩ hT
      unfold mulX; rw [hvx, hvy]; exact this
    | false =>
      have HD := Lib.hid (show mulX x y = (.zero, 1) by unfold mulX; rw [hvx, hvy]; rfl)
      have Hx := Lib.hid hvx
      have Hy := Lib.hid hvy
      clear hvx hvy
      rw [HD.out]
      go_enter Tryd.func10, Tryd.ntmps10
      go_wp2_with fail
      generalize hW : (((w.alloc _).alloc _).alloc _) = W at *
      have hk : Kp w W := hW ▸ (((Kp.refl w).alloc _).alloc _).alloc _
      have hS : W.cell? ⟨w.heap.size, 0, none⟩ = some (.bool x.neg) ∧ W.cell? ⟨w.heap.size, 1, none⟩ = some (.slice x.a x.xs.length x.c) ∧ W.cell? ⟨w.heap.size, 2, none⟩ = some (.int .i64 x.e) ∧ W.cell? ⟨w.heap.size + 1, 0, none⟩ = some (.bool y.neg) ∧ W.cell? ⟨w.heap.size + 1, 1, none⟩ = some (.slice y.a y.xs.length y.c) ∧ W.cell? ⟨w.heap.size + 1, 2, none⟩ = some (.int .i64 y.e) := by rw [← hW]; exact keep6 ((Kp.refl _).alloc _) (by simp)
      have hB : Box3 W (w.heap.size + 2) (.bool false) (.slice none 0 0) (.int .i64 0) := hW ▸ Box3.new3 _ _ _ _ _ _ _
      clear hW
      refine (Valid_raw x _ (hx.kp hk)).mono ?_
      rw [Hx.out]
      rintro e w1 ⟨rfl, hk1⟩
      have hS1 := keepRR hk1 hS
      have hB1 := hB.kp hk1
      have hk2 := hk.trans hk1
      clear hS hk hk1 hB
      obtain ⟨s0, s1, s2, t0, t1, t2⟩ := hS1
      go_wp2_with fail
      refine (Valid_raw y _ (hy.kp hk2)).mono ?_
      rw [Hy.out]
      rintro e w2 ⟨rfl, hk3⟩
      have hkk := hk2.trans hk3
      obtain ⟨q0, q1, q2, f0, f1, f2⟩ := hB1.kp hk3
      clear s0 s1 s2 t0 t1 t2 hB1 hk2 hk3
      go_wp2_with fail
      have hst := stored q0 q1 q2 (fun _ h => by cases h) (fun _ h => by cases h) (fun _ h => by cases h) (.bool false) (.slice none 0 0) (.int .i64 0)
      generalize (((w2.setCell _ _).setCell _ _).setCell _ _) = W9 at hst ⊢
      obtain ⟨s0, s1, s2, _, s4, s5, _, _⟩ := hst
      refine bodyPost_ret (v := .tuple #[.agg #[.bool false, .slice none 0 0, .int .i64 0], .int .i64 1]) (by simp [results, Tryd.results10, go_sem, s0, s1, s2]) rfl ?_
      exact numE_zero rfl (s5 _ hkk (by omega))
  | false =>
    have HD := Lib.hid (show mulX x y = (.zero, 1) by unfold mulX; rw [hvx]; rfl)
    have Hx := Lib.hid hvx
    clear hvx
    rw [HD.out]
    go_enter Tryd.func10, Tryd.ntmps10
    go_wp2_with fail
    generalize hW : (((w.alloc _).alloc _).alloc _) = W at *
    have hk : Kp w W := hW ▸ (((Kp.refl w).alloc _).alloc _).alloc _
    have hB : Box3 W (w.heap.size + 2) (.bool false) (.slice none 0 0) (.int .i64 0) := hW ▸ Box3.new3 _ _ _ _ _ _ _
    clear hW
    refine (Valid_raw x _ (hx.kp hk)).mono ?_
    rw [Hx.out]
    rintro e w2 ⟨rfl, hk3⟩
    have hkk := hk.trans hk3
    obtain ⟨q0, q1, q2, f0, f1, f2⟩ := hB.kp hk3
    clear hB hk hk3
    go_wp2_with fail
    have hst := stored q0 q1 q2 (fun _ h => by cases h) (fun _ h => by cases h) (fun _ h => by cases h) (.bool false) (.slice none 0 0) (.int .i64 0)
    generalize (((w2.setCell _ _).setCell _ _).setCell _ _) = W9 at hst ⊢
    obtain ⟨s0, s1, s2, _, s4, s5, _, _⟩ := hst
    refine bodyPost_ret (v := .tuple #[.agg #[.bool false, .slice none 0 0, .int .i64 0], .int .i64 1]) (by simp [results, Tryd.results10, go_sem, s0, s1, s2]) rfl ?_
    exact numE_zero rfl (s5 _ hkk (by omega))
/-- what the law's check is given -/
def Fit (p : Int) (s lo hi : RD) (e f g : Int) : Prop :=
  e = 0 → s.vl = true ∧ lo.vl = true ∧ hi.vl = true ∧ lo.dy = (rndB s p false).1 ∧ f = (rndB s p false).2 ∧ hi.dy = (rndB s p true).1 ∧ g = (rndB s p true).2
theorem fit_add {w w1 : World} {p : Int} {x y s lo hi : RD} (hx : x.rd w) (hy : y.rd w) (rs : s.rd w1) (es : s.dy = (addX x y).1) (vs : (addX x y).1.ok → s.vl = true)
    (el : lo.dy = (addB x y p false).1) (vl : (addB x y p false).1.ok → lo.vl = true) (eh : hi.dy = (addB x y p true).1) (vh : (addB x y p true).1.ok → hi.vl = true) :
    Fit p s lo hi (addX x y).2 (addB x y p false).2 (addB x y p true).2 := by
  intro h0
  have v := vs (addX_ok x y)
  have h1 := add_exact hx hy ⟨rs, v⟩ h0 es p false
  have h2 := add_exact hx hy ⟨rs, v⟩ h0 es p true
  rw [h1] at el vl ⊢
  rw [h2] at eh vh ⊢
  exact ⟨v, vl (rndB_ok s p false), vh (rndB_ok s p true), el, rfl, eh, rfl⟩
theorem fit_mul {w w1 : World} {p : Int} {x y s lo hi : RD} (hx : x.rd w) (hy : y.rd w) (rs : s.rd w1) (es : s.dy = (mulX x y).1) (vs : (mulX x y).1.ok → s.vl = true)
    (el : lo.dy = (mulB x y p false).1) (vl : (mulB x y p false).1.ok → lo.vl = true) (eh : hi.dy = (mulB x y p true).1) (vh : (mulB x y p true).1.ok → hi.vl = true) :
    Fit p s lo hi (mulX x y).2 (mulB x y p false).2 (mulB x y p true).2 := by
  intro h0
  have v := vs (mulX_ok x y)
  have h1 := mul_exact hx hy ⟨rs, v⟩ h0 es p false
  have h2 := mul_exact hx hy ⟨rs, v⟩ h0 es p true
  rw [h1] at el vl ⊢
  rw [h2] at eh vh ⊢
  exact ⟨v, vl (rndB_ok s p false), vh (rndB_ok s p true), el, rfl, eh, rfl⟩
theorem cell_new1 (w : World) (v : Value) (t : TypeId) : (w.alloc (.cells #[v] t)).cell? ⟨w.heap.size, 0, none⟩ = some v := by simp
theorem cell_new3 (w : World) (o1 o2 : Obj) (v : Value) (t : TypeId) : (((w.alloc o1).alloc o2).alloc (.cells #[v] t)).cell? ⟨w.heap.size + 2, 0, none⟩ = some v := by
  have := cell_new1 ((w.alloc o1).alloc o2) v t
  rwa [World.size_alloc, World.size_alloc] at this
theorem box_set {w : World} {g b : Nat} (n : b ≠ g) {v0 v1 v2 x0 x1 x2 : Value} (h : Box3 w b v0 v1 v2) : Box3 (((w.setCell ⟨g, 0, none⟩ x0).setCell ⟨g, 1, none⟩ x1).setCell ⟨g, 2, none⟩ x2) b v0 v1 v2 := by
  obtain ⟨q0, q1, q2, f0, f1, f2⟩ := h
  obtain ⟨c0, c1, c2⟩ := set3x (x0 := x0) (x1 := x1) (x2 := x2) n ⟨q0, q1, q2⟩
  exact ⟨c0, c1, c2, by simp [f0], by simp [f1], by simp [f2]⟩
theorem Stored.box {w W : World} {g : Nat} {x0 x1 x2 y0 y1 y2 : Value} (hs : Stored g x0 x1 x2 w W) (h : Box3 w g y0 y1 y2) : Box3 W g x0 x1 x2 := by
  obtain ⟨_, _, _, f0, f1, f2⟩ := h
  obtain ⟨a0, a1, a2, a3, _⟩ := hs
  exact ⟨a0, a1, a2, by rw [a3]; exact f0, by rw [a3]; exact f1, by rw [a3]; exact f2⟩
theorem set1 {w : World} {g b : Nat} (n : b ≠ g) {v x0 x1 x2 : Value} (h : w.cell? ⟨b, 0, none⟩ = some v) : (((w.setCell ⟨g, 0, none⟩ x0).setCell ⟨g, 1, none⟩ x1).setCell ⟨g, 2, none⟩ x2).cell? ⟨b, 0, none⟩ = some v := by
  have ne (i j : Nat) : (⟨g, i, none⟩ : Addr) ≠ ⟨b, j, none⟩ := fun e => n (by injection e with e1; exact e1.symm)
  rw [cell_set_ne (ne 2 0), cell_set_ne (ne 1 0), cell_set_ne (ne 0 0)]
  exact h
end Go.Proofs.YtndbnfeapdkoaaaDoor
