/-
  Walks: dyadic.Abs of valid numbers.
  Plain: what the law RoundBack asks; no program in sight.
-/
import Derived.Test.YtndbnfeapdkoaaaDoorMRoA
import Derived.Test.YtndbnfeapdkoaaaDoorMSign
import Derived.Test.YtndbnfeapdkoaaaDoorMLaw3B
section
namespace Go.Proofs.YtndbnfeapdkoaaaDoor
open Go.RowKit

/-- the absolute value -/
def Dy.absv (d : Dy) : Dy := if d.m = 0 then .zero else ⟨false, d.m, d.e⟩
theorem Dy.absv_ok {d : Dy} (h : d.ok) : d.absv.ok := by
  unfold Dy.absv
  split
  · exact Dy.ok_zero
  · next h0 =>
    rcases h with h | ⟨h1, h2⟩
    · exact absurd h.1 h0
    · exact .inr ⟨h1, h2⟩
theorem Dy.absv_iv {d : Dy} : d.absv.iv = (d.iv.natAbs : Int) := by
  unfold Dy.absv
  split
  · next h0 => rw [Dy.iv_eq_zero.2 h0, Dy.iv_zero]; rfl
  · show sg false _ = ((sg d.neg _).natAbs : Int)
    generalize d.m * 2 ^ (d.e + 16384).toNat = u
    unfold sg
    cases d.neg <;> simp
set_option maxHeartbeats 2000000 in
theorem Abs_ok (x : RD) (w : World) (h : x.ok w) :
    Calls Tryd.prog 17 #[.agg #[.bool x.neg, .slice x.a x.xs.length x.c, .int .i64 x.e]] w (NumOut w x.dy.absv) := by
  have hlen := rdok_len h
  have he := rdok_e h
  by_cases h0 : x.xs.length = 0
  · have hz : ((x.xs.length : Int) == 0) = true := beq_iff_eq.2 (by omega)
    have H := Lib.hid (show x.dy.absv = .zero by unfold Dy.absv; rw [if_pos ((rdok_zero h).1 h0)])
    clear h0
    go_enter Tryd.func17, Tryd.ntmps17
    go_wp2_with fail
    generalize hW : ((w.alloc _).alloc _) = W at *
    have hk : Kp w W := hW ▸ ((Kp.refl w).alloc _).alloc _
    have hS : W.cell? ⟨w.heap.size, 0, none⟩ = some (.bool x.neg) ∧ W.cell? ⟨w.heap.size, 1, none⟩ = some (.slice x.a x.xs.length x.c) ∧ W.cell? ⟨w.heap.size, 2, none⟩ = some (.int .i64 x.e) := by rw [← hW]; simp
    have hB : Box3 W (w.heap.size + 1) (.bool false) (.slice none 0 0) (.int .i64 0) := hW ▸ Box3.new2 _ _ _ _ _ _
    clear hW
    refine (Valid_rok x _ (h.kp hk)).mono ?_
    rintro e w1 ⟨rfl, hk1⟩
    have hS1 := keep3 hk1 hS
    obtain ⟨q0, q1, q2, f0, f1, f2⟩ := hB.kp hk1
    have hk2 := hk.trans hk1
    clear hS hk hk1 hB
    go_wp2_with fail
    have hst := stored q0 q1 q2 (fun _ h => by cases h) (fun _ h => by cases h) (fun _ h => by cases h) (.bool false) (.slice none 0 0) (.int .i64 0)
    generalize (((w1.setCell _ _).setCell _ _).setCell _ _) = W2 at hst ⊢
    obtain ⟨s0, s1, s2, _, s4, s5, _, _⟩ := hst
    refine bodyPost_ret (v := .agg #[.bool false, .slice none 0 0, .int .i64 0]) (by simp [results, Tryd.results17, go_sem, s0, s1, s2]) rfl ?_
    rw [H.out]
    exact numOut_zero rfl (s5 _ hk2 (by omega))
  · have hz : ((x.xs.length : Int) == 0) = false := beq_eq_false_iff_ne.2 (by omega)
    have H := Lib.hid (show x.dy.absv = ⟨false, val x.xs, x.e⟩ by unfold Dy.absv; rw [if_neg (fun e => h0 ((rdok_zero h).2 e))]; rfl)
    have Hv := Lib.hid (show (x.dy.absv.ok → vld false x.xs x.e = true) from fun hok => by
      have := ok_vld hok
      rwa [H.out, show limbs (Dy.m ⟨false, val x.xs, x.e⟩) = x.xs from rdok_limbs h] at this)
    clear h0
    go_enter Tryd.func17, Tryd.ntmps17
    go_wp2_with fail
    generalize hW : ((w.alloc _).alloc _) = W at *
    have hk : Kp w W := hW ▸ ((Kp.refl w).alloc _).alloc _
    have hS : W.cell? ⟨w.heap.size, 0, none⟩ = some (.bool x.neg) ∧ W.cell? ⟨w.heap.size, 1, none⟩ = some (.slice x.a x.xs.length x.c) ∧ W.cell? ⟨w.heap.size, 2, none⟩ = some (.int .i64 x.e) := by rw [← hW]; simp
    have hB : Box3 W (w.heap.size + 1) (.bool false) (.slice none 0 0) (.int .i64 0) := hW ▸ Box3.new2 _ _ _ _ _ _
    clear hW
    refine (Valid_rok x _ (h.kp hk)).mono ?_
    rintro e w1 ⟨rfl, hk1⟩
    have hS1 := keep3 hk1 hS
    have hB1 := (hB.kp hk1).kp (Kp.refl w1).drew
    have hk2 := hk.trans hk1
    have hx := (h.kp hk2).drew
    clear hS hk hk1 hB
    go_wp2_with fail
    have hS2 := keep3 (Kp.refl w1).drew hS1
    clear hS1
    go_region_held3 (fun w' => w'.cell? ⟨w.heap.size, 0, none⟩ = some (.bool x.neg) ∧ w'.cell? ⟨w.heap.size, 1, none⟩ = some (.slice x.a x.xs.length x.c) ∧ w'.cell? ⟨w.heap.size, 2, none⟩ = some (.int .i64 x.e)) (first | with_reducible assumption | with_reducible exact keep3 (by assumption) (by assumption) | with_reducible exact set3x (by omega) (by assumption))
      (first
        | (go_at_call 36; refine (clone_any x.a x.xs x.c _ hx.1.1 (by omega)).mono ?_; rintro e w4 ⟨a4, c4, rfl, r4, l4, m4, hk4⟩; obtain ⟨q0, q1, q2, f0, f1, f2⟩ := hB1.kp hk4))
    have hk5 := hk2.drew.trans hk4
    have hxs := hx.1.1.lt32
    clear hS2 hB1 hx
    have hst := stored q0 q1 q2 (fun _ h => by cases h) (fun _ h => by cases h) (fun _ h => by cases h) (.bool false) (.slice a4 x.xs.length c4) (.int .i64 x.e)
    go_wp2_with fail
    generalize (((w4.setCell _ _).setCell _ _).setCell _ _) = W2 at hst ⊢
    obtain ⟨s0, s1, s2, _, s4, s5, _, _⟩ := hst
    refine bodyPost_ret (v := .agg #[.bool (RD.mk false a4 x.xs c4 x.e).neg, .slice (RD.mk false a4 x.xs c4 x.e).a (RD.mk false a4 x.xs c4 x.e).xs.length (RD.mk false a4 x.xs c4 x.e).c, .int .i64 (RD.mk false a4 x.xs c4 x.e).e]) (by simp [results, Tryd.results17, go_sem, s0, s1, s2]) rfl ?_
    exact ⟨RD.mk false a4 x.xs c4 x.e, rfl, ⟨s4 _ _ r4, l4, m4, by show x.xs.length ≤ 1100000; omega, ⟨by show _ ≤ x.e; omega, by show x.e ≤ _; omega⟩⟩, H.out.symm, Hv.out, s5 _ hk5 (by omega)⟩
end Go.Proofs.YtndbnfeapdkoaaaDoor
end

section
namespace Go.Proofs.YtndbnfeapdkoaaaDoor
open Go.RowKit

theorem rndB_le {w : World} {x : RD} (hx : x.ok w) {p : Int} (h : (rndB x p false).2 = 0) : (rndB x p false).1.iv ≤ x.iv := by
  obtain ⟨g1, g2⟩ := rndB_good h
  exact (down_spec (by omega) (by omega) (rndB_some hx h)).2.1
theorem rndB_ge {w : World} {x : RD} (hx : x.ok w) {p : Int} (h : (rndB x p true).2 = 0) : x.iv ≤ (rndB x p true).1.iv := by
  obtain ⟨g1, g2⟩ := rndB_good h
  exact (up_spec (by omega) (by omega) (rndB_some hx h)).2.1
/-- a number of p bits is rounded to itself -/
theorem rndB_self {w : World} {x : RD} (hx : x.ok w) {p : Int} (h : isB x p = true) (up : Bool) : rndB x p up = (x.dy, 0) := by
  have h0 := isB_code hx h up
  obtain ⟨⟨h1, h2⟩, h3⟩ := (isB_iff hx).1 h
  have hP : isP p.toNat x.dy := ⟨rdok_dy hx, by omega⟩
  have hs := rndB_some hx h0
  have he : (rndB x p up).1 = x.dy := by
    cases up with
    | false =>
      obtain ⟨a1, a2, a3⟩ := down_spec (by omega) (by omega) hs
      exact Dy.iv_inj a1.1 hP.1 (Int.le_antisymm a2 (a3 _ hP (Int.le_refl _)))
    | true =>
      obtain ⟨a1, a2, a3⟩ := up_spec (by omega) (by omega) hs
      exact Dy.iv_inj a1.1 hP.1 (Int.le_antisymm (a3 _ hP (Int.le_refl _)) a2)
  rw [← h0, ← he]
theorem mulX_dy {x y : RD} (h : (mulX x y).2 = 0) : x.vl = true ∧ y.vl = true ∧ (mulX x y).1 = prodD x.dy y.dy ∧ (chk (prodD x.dy y.dy)).2 = 0 := by
  unfold mulX at h ⊢
  split at h
  · next hv =>
    rw [if_pos hv]
    rw [Bool.and_eq_true] at hv
    exact ⟨hv.1, hv.2, chk0 h, h⟩
  · cases h
/-- the value of an exact product -/
theorem mulX_iv {w w' : World} {x y : RD} (hx : x.rd w) (hy : y.rd w') (h : (mulX x y).2 = 0) : (mulX x y).1.iv * 2 ^ 16384 = x.iv * y.iv := by
  obtain ⟨h1, h2, h3, h4⟩ := mulX_dy h
  rw [h3]
  exact prodD_iv (rdok_dy ⟨hx, h1⟩) (rdok_dy ⟨hy, h2⟩) h4
theorem posTwo (k : Nat) : (0 : Int) < 2 ^ k := by exact_mod_cast two_pow_pos k
/-- a square is not below 0 -/
theorem square_neg {w w' : World} {x m : RD} (hx : x.rd w) (h : (mulX x x).2 = 0) (hm : m.ok w') (em : m.dy = (mulX x x).1) : m.neg = false := by
  obtain ⟨h1, _, h3, h4⟩ := mulX_dy h
  have hv := mulX_iv hx hx h
  have hs : 0 ≤ x.iv * x.iv := by rw [← Int.natAbs_mul_self]; exact Int.natCast_nonneg _
  cases hn : m.neg with
  | false => rfl
  | true =>
    exfalso
    have hi : m.dy.iv ≤ 0 := by have := Dy.iv_neg (d := m.dy) hn; omega
    rw [em] at hi
    have h5 : (mulX x x).1.iv = 0 := by
      rcases Int.lt_or_eq_of_le hi with h6 | h6
      · have := Int.mul_neg_of_neg_of_pos h6 (posTwo 16384)
        omega
      · exact h6
    rw [← em] at h5
    have h6 : m.dy = Dy.zero := Dy.iv_inj (rdok_dy hm) Dy.ok_zero (by rw [h5, Dy.iv_zero])
    have := congrArg Dy.neg h6
    rw [show m.dy.neg = m.neg from rfl, hn] at this
    cases this
end Go.Proofs.YtndbnfeapdkoaaaDoor
end
