/-
  Walks: the example of chapter 3: DivDown, DivUp, SqrtDown, Near at its numbers; the law's awake.
-/
import Derived.Test.YtndbnfeapdkoaaaDoorMNear
import Derived.Test.YtndbnfeapdkoaaaDoorMRndP
namespace Go.Proofs.YtndbnfeapdkoaaaDoor
open Go.RowKit

theorem dy_val {x : RD} {m : Nat} {e : Int} (h : x.dy = dyL m e) : x.neg = false ∧ val x.xs = m ∧ x.e = e := ⟨congrArg Dy.neg h, congrArg Dy.m h, congrArg Dy.e h⟩
theorem limbs_single {m : Nat} (h0 : 0 < m) (h1 : m < 4294967296) : limbs m = [m] := by
  rw [limbs_pos (by omega), Nat.mod_eq_of_lt h1, Nat.div_eq_of_lt h1, limbs_zero]
/-- division by three -/
theorem third_of (x y : RD) (up : Bool) (D : Dy) (w : World) (hx : x.ok w) (hy : y.ok w) (ex : x.dy = dyL 1 0) (ey : y.dy = dyL 3 0) (hT : Tab w) (hD : rndS false 1365 (-12) true 8 up = some D) :
    Calls Tryd.prog 21 #[.agg #[.bool x.neg, .slice x.a x.xs.length x.c, .int .i64 x.e], .agg #[.bool y.neg, .slice y.a y.xs.length y.c, .int .i64 y.e], .int .i64 8, .bool up] w (NumE w D 0) := by
  obtain ⟨a1, a2, a3⟩ := dy_val ex
  obtain ⟨b1, b2, b3⟩ := dy_val ey
  have h3 : bits 3 = 2 := bits_unique (by decide) (.inr (by decide))
  have h1 : bits 1 = 1 := bits_unique (by decide) (.inr (by decide))
  have h12 : bits (1 * 2 ^ 12) ≤ 13 := bits_le.2 (by decide)
  have H := div_of x y 8 12 up w hx hy (by rw [a2]; decide) (by rw [b2]; decide) (by decide) (by decide) hT (by rw [a2, b2, h3, h1]; rfl)
    (fun W a c _ k2 k3 k4 k5 => by
      have := divide1_any a y.a (limbs (val x.xs * 2 ^ 12)) y.xs c y.c W k2 k5 (limbs_of_bits (by rw [a2]; omega)) k3 hy.1.2.1 k4 hy.1.2.2.1 (by rw [b2, limbs_single (by decide) (by decide)]; rfl)
      rwa [val_limbs] at this)
  have hR : rndS (x.neg != y.neg) (val x.xs * 2 ^ 12 / val y.xs) (x.e - (12 : Nat) - y.e) (decide (0 < bits (val x.xs * 2 ^ 12 % val y.xs))) 8 up = some D := by
    rw [a1, a2, a3, b1, b2, b3, show 1 * 2 ^ 12 / 3 = 1365 from by decide, show 1 * 2 ^ 12 % 3 = 1 from by decide, h1]
    exact hD
  rw [hR] at H
  exact H
theorem rt724 : isRt (1 * 2 ^ 19) 724 := ⟨by decide, by decide⟩
/-- the root of two -/
theorem root_of (x : RD) (w : World) (hx : x.ok w) (ex : x.dy = dyL 1 1) (hT : Tab w) :
    Calls Tryd.prog 35 #[.agg #[.bool x.neg, .slice x.a x.xs.length x.c, .int .i64 x.e], .int .i64 8, .bool false] w (NumE w (dyL 181 (-7)) 0) := by
  obtain ⟨a1, a2, a3⟩ := dy_val ex
  have h1 : bits 1 = 1 := bits_unique (by decide) (.inr (by decide))
  have hb : bits (1 * 2 ^ 19) = 20 := bits_unique (by decide) (.inr (by decide))
  have H := sqrt_of x 8 19 724 (-9) false w hx (by rw [a2]; decide) a1 (by decide) (by decide) hT (by rw [a2, h1]; rfl) (by rw [a3]; rfl) (by rw [a2]; exact rt724.1)
    (fun W a c hk k2 k3 k4 => by
      have hS := Sqrt_of a (limbs (val x.xs * 2 ^ 19)) c W k2 (limbs_of_bits (by rw [a2, hb]; decide)) k3 k4 (by rw [val_limbs, a2]; decide)
        (fun W' b ys d hk' hy hyd hd hyl hy0 hyh => by
          have hy1 : val ys < 4294967296 := by
            rw [val_limbs, a2, hb] at hyh
            exact Nat.lt_of_le_of_lt hyh (by decide)
          exact divide1_any a b (limbs (val x.xs * 2 ^ 19)) ys c d W' (k2.kp hk') hy (limbs_of_bits (by rw [a2, hb]; decide)) k3 hyd k4 hd (by rw [limbs_single hy0 hy1]; rfl))
      refine hS.mono ?_
      rintro e w' ⟨s, hs, h⟩
      rw [val_limbs, a2] at hs
      rw [hs.unique rt724] at h
      exact h)
  have hR : rcut 724 (-9) (!decide (724 * 724 = val x.xs * 2 ^ 19)) 8 false = some (dyL 181 (-7)) := by
    rw [a2, show decide (724 * 724 = 1 * 2 ^ 19) = false from by decide]
    exact root_down
  rw [hR] at H
  exact H
/-- 257, to eight bits -/
theorem near257 {x : RD} {w : World} (hx : x.ok w) (ex : x.dy = dyL 257 0) : nearR x 8 = (dyL 1 8, 0) := by
  obtain ⟨a1, a2, a3⟩ := dy_val ex
  have hf : fltB 8 [x] = 0 := fltB_ok (p := 8) (by simp [hx.2]) (by decide) (by decide)
  have h0 : rndB x 8 false = (dyL 1 8, 0) := by
    unfold rndB; rw [if_pos hf, a1, a2, a3]
    show rndE (rndS false 257 0 false 8 false) = _
    rw [n257_down]; rfl
  have h1 : rndB x 8 true = (dyL 129 1, 0) := by
    unfold rndB; rw [if_pos hf, a1, a2, a3]
    show rndE (rndS false 257 0 false 8 true) = _
    rw [n257_up]; rfl
  have ok1 : (dyL 1 0).ok := dyL_ok (by decide) (by decide) (by decide) (by decide)
  unfold nearR difD
  rw [h0, h1, ex]
  simp only [n257_below, n257_above, chk_of_ok ok1]
  have hn : nearB (dyL 1 8) (dyL 129 1) (dyL 1 0) (dyL 1 0) = false := by
    unfold nearB
    have hc : cmpZ (dyL 1 0).iv (dyL 1 0).iv = 0 := by unfold cmpZ; simp
    rw [hc]; decide
  rw [hn]; simp
set_option maxRecDepth 100000 in
set_option maxHeartbeats 8000000 in
theorem num_ok (m : Nat) (ex : Int) (w : World) (hm : m % 2 = 1) (h1 : m < 4294967296) (h2 : -16384 ≤ ex) (h3 : ex ≤ 16352) :
    Calls Tryd.prog 19 #[.int .u32 (m : Nat), .int .i64 ex] w fun e w' => ∃ y : RD, e = .returned (.agg #[.bool y.neg, .slice y.a y.xs.length y.c, .int .i64 y.e]) ∧ y.ok w' ∧ y.dy = dyL m ex ∧ Kp w w' := by
  refine (num_any m ex w h1 (ok_I64 (dyL_ok hm h1 h2 h3))).mono ?_
  rintro e w' ⟨y, rfl, hr, y1, y2, y3, hk⟩
  have hd : y.dy = dyL m ex := by unfold RD.dy dyL; rw [y1, y2, y3]; simp [val]
  have hv : y.vl = true := by
    have := ok_vld (dyL_ok hm h1 h2 h3)
    unfold RD.vl
    rw [y1, y2, y3]
    rw [show limbs (dyL m ex).m = [m] from limbs_single (m := m) (by omega) h1] at this
    exact this
  exact ⟨y, rfl, ⟨hr, hv⟩, hd, hk⟩
end Go.Proofs.YtndbnfeapdkoaaaDoor
