/-
  Plain: what the laws of chapter 3 ask of roundings; no program in sight.
-/
import Derived.Test.YtkkiinbgjjjcoaaGreatDoorMAwk4
namespace Go.Proofs.YtkkiinbgjjjcoaaGreatDoor
open Go.RowKit

theorem rndB_rnd {w : World} {x : RD} (hx : x.ok w) {p : Int} (h0 : 8 ≤ p) (h1 : p ≤ 512) (up : Bool) : rndB x p up = rndE (rnd 0 x.iv p.toNat up) := by
  unfold rndB
  rw [if_pos (fltB_zero.2 ⟨by simp [hx.2], h0, h1⟩)]
  exact congrArg rndE (rndS_rnd (rdok_dy hx) (by omega) up)
theorem rndB_bad {x : RD} (hv : x.vl = true) {p : Int} (h : ¬ (8 ≤ p ∧ p ≤ 512)) (up : Bool) : rndB x p up = (.zero, 2) := by
  have hp : preB p = false := decide_eq_false h
  have hf : fltB p [x] = 2 := by unfold fltB; simp [hv, hp]
  unfold rndB
  rw [hf, if_neg (by decide)]
theorem zero_opp : Dy.zero.opp = Dy.zero := by unfold Dy.opp; exact if_pos rfl
/-- the negative number, rounded up -/
theorem rndB_opp {w w' : World} {x n : RD} (hx : x.ok w) (hn : n.ok w') (e : n.dy = x.dy.opp) (p : Int) : rndB n p true = ((rndB x p false).1.opp, (rndB x p false).2) := by
  by_cases h : 8 ≤ p ∧ p ≤ 512
  · rw [rndB_rnd hx h.1 h.2, rndB_rnd hn h.1 h.2, show n.iv = -x.iv from by show n.dy.iv = _; rw [e, Dy.opp_iv]; rfl, rnd_opp (by omega) (by omega)]
    show rndE ((rnd 0 x.iv p.toNat false).map Dy.opp) = _
    cases rnd 0 x.iv p.toNat false with
    | none => show (Dy.zero, (9 : Int)) = (Dy.zero.opp, 9); rw [zero_opp]
    | some d => rfl
  · rw [rndB_bad hx.2 h, rndB_bad hn.2 h, zero_opp]
theorem rndE_some {r : Option Dy} (h : (rndE r).2 = 0) : r = some (rndE r).1 := by
  cases r with
  | none => cases h
  | some d => rfl
theorem rndB_good {x : RD} {p : Int} {up : Bool} (h : (rndB x p up).2 = 0) : 8 ≤ p ∧ p ≤ 512 := by
  obtain ⟨_, h1, h2⟩ := rndB_valid h; exact ⟨h1, h2⟩
theorem rndB_some {w : World} {x : RD} (hx : x.ok w) {p : Int} {up : Bool} (h : (rndB x p up).2 = 0) : rnd 0 x.iv p.toNat up = some (rndB x p up).1 := by
  obtain ⟨h1, h2⟩ := rndB_good h
  rw [rndB_rnd hx h1 h2] at h ⊢
  exact rndE_some h
/-- rounding keeps the order -/
theorem law_order {w w' : World} {x y : RD} (hx : x.ok w) (hy : y.ok w') (hxy : x.iv ≤ y.iv) {p : Int} (h1 : (rndB x p false).2 = 0) (h2 : (rndB y p false).2 = 0) : (rndB x p false).1.iv ≤ (rndB y p false).1.iv := by
  obtain ⟨g1, g2⟩ := rndB_good h1
  exact down_mono (by omega) (by omega) hxy (rndB_some hx h1) (rndB_some hy h2)
/-- more bits are not worse -/
theorem law_more {w : World} {x : RD} (hx : x.ok w) {p q : Int} (hpq : p ≤ q) (h1 : (rndB x p false).2 = 0) (h2 : (rndB x q false).2 = 0) : (rndB x p false).1.iv ≤ (rndB x q false).1.iv ∧ (rndB x q false).1.iv ≤ x.iv := by
  obtain ⟨g1, g2⟩ := rndB_good h1
  obtain ⟨g3, g4⟩ := rndB_good h2
  exact down_more (by omega) (show p.toNat ≤ q.toNat by omega) (by omega) (rndB_some hx h1) (rndB_some hx h2)
theorem cmp_le {a b : Int} (h : a ≤ b) : cmpZ a b ≤ 0 := by unfold cmpZ; split <;> (try split) <;> omega
theorem cmp_gt {a b : Int} (h : b < a) : 0 < cmpZ a b := by unfold cmpZ; split <;> (try split) <;> omega
end Go.Proofs.YtkkiinbgjjjcoaaGreatDoor
