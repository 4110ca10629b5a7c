/-
  Plain: the rounded product is the exact one rounded, where that is a valid number.
  Plain: what the laws RoundExact and RoundEnds ask; no program in sight.
-/
import Derived.Test.YtkkiinbgjjjcoaaGreatDoorMRoAdd
import Derived.Test.YtkkiinbgjjjcoaaGreatDoorMMulD
section
namespace Go.Proofs.YtkkiinbgjjjcoaaGreatDoor
open Go.RowKit

theorem canon_rnd {s : Bool} {N p : Nat} {e : Int} {up : Bool} (hN : N ≠ 0) (h : (canon s N e).ok) : rndS s N e false p up = rnd 0 (canon s N e).iv p up := by
  have hc : canon s N e = ⟨s, oddp N, e + tz N⟩ := by unfold canon; rw [if_neg hN]
  have he := ok_e h
  rw [hc] at he ⊢
  refine rndS_val (a := (-(e + 16384)).toNat) (b := (e + 16384).toNat) hN ?_ (by omega)
  rw [iv_scale (d := ⟨s, oddp N, e + tz N⟩) (low := e) he.1 (by show e ≤ e + tz N; omega)]
  show sg s (oddp N * 2 ^ (e + tz N - e).toNat) * _ = _
  rw [show (e + (tz N : Int) - e).toNat = tz N from by omega, ← (oddp_spec hN).2]
end Go.Proofs.YtkkiinbgjjjcoaaGreatDoor
end

section
namespace Go.Proofs.YtkkiinbgjjjcoaaGreatDoor
open Go.RowKit

theorem chk0 {d : Dy} (h : (chk d).2 = 0) : (chk d).1 = d := by
  unfold chk at h ⊢
  split at h
  · next h' => rw [if_pos h']
  · next h' => cases h
/-- a sum, exact -/
def addX (x y : RD) : Dy × Int := if (x.vl && y.vl) = true then chk (sumD x.dy y.dy) else (.zero, 1)
/-- a product, exact -/
def mulX (x y : RD) : Dy × Int := if (x.vl && y.vl) = true then chk (prodD x.dy y.dy) else (.zero, 1)
theorem addX_ok (x y : RD) : (addX x y).1.ok := by
  unfold addX; split
  · exact sumD_chk_ok _ _
  · exact Dy.ok_zero
theorem mulX_ok (x y : RD) : (mulX x y).1.ok := by
  unfold mulX; split
  · exact chk_canon_ok _ _ _
  · exact Dy.ok_zero
theorem flt2 {x y : RD} {p : Int} (hx : x.vl = true) (hy : y.vl = true) (h : ¬ (8 ≤ p ∧ p ≤ 512)) : fltB p [x, y] = 2 := by
  have hp : preB p = false := decide_eq_false h
  unfold fltB; simp [hx, hy, hp]
theorem flt20 {x y : RD} {p : Int} (hx : x.vl = true) (hy : y.vl = true) (h : 8 ≤ p ∧ p ≤ 512) : fltB p [x, y] = 0 := fltB_zero.2 ⟨by simp [hx, hy], h.1, h.2⟩
/-- the rounded sum is the exact one, rounded -/
theorem add_exact {w w' : World} {x y z : RD} (_hx : x.rd w) (_hy : y.rd w) (hz : z.ok w') (h : (addX x y).2 = 0) (ez : z.dy = (addX x y).1) (p : Int) (up : Bool) : addB x y p up = rndB z p up := by
  unfold addX at h ez
  split at h
  · next hv =>
    rw [if_pos hv] at ez
    rw [Bool.and_eq_true] at hv
    rw [chk0 h] at ez
    unfold addB
    by_cases hp : 8 ≤ p ∧ p ≤ 512
    · rw [if_pos (flt20 hv.1 hv.2 hp), rndB_rnd hz hp.1 hp.2, show z.iv = x.iv + y.iv from by show z.dy.iv = _; rw [ez, sumD_iv]; rfl]
    · rw [flt2 hv.1 hv.2 hp, if_neg (by decide), rndB_bad hz.2 hp]
  · next hv => cases h
/-- the rounded product is the exact one, rounded -/
theorem mul_exact {w w' : World} {x y z : RD} (hx : x.rd w) (hy : y.rd w) (hz : z.ok w') (h : (mulX x y).2 = 0) (ez : z.dy = (mulX x y).1) (p : Int) (up : Bool) : mulB x y p up = rndB z p up := by
  have hok := mulX_ok x y
  unfold mulX at h ez hok
  split at h
  · next hv =>
    rw [if_pos hv] at ez hok
    rw [Bool.and_eq_true] at hv
    have hxo : x.ok w := ⟨hx, hv.1⟩
    have hyo : y.ok w := ⟨hy, hv.2⟩
    rw [chk0 h] at ez hok
    unfold mulB
    by_cases hp : 8 ≤ p ∧ p ≤ 512
    · rw [if_pos (flt20 hv.1 hv.2 hp), rndB_rnd hz hp.1 hp.2, show z.iv = (prodD x.dy y.dy).iv from by show z.dy.iv = _; rw [ez]]
      by_cases h0 : x.xs.length = 0 ∨ y.xs.length = 0
      · rw [if_pos h0]
        have hm : x.dy.m * y.dy.m = 0 := by
          rcases h0 with h0 | h0
          · rw [(rdok_zero hxo).1 h0, Nat.zero_mul]
          · rw [(rdok_zero hyo).1 h0, Nat.mul_zero]
        unfold prodD
        rw [hm, canon_zero, Dy.iv_zero, rnd_zero]; rfl
      · rw [if_neg h0]
        have hm : x.dy.m * y.dy.m ≠ 0 := Nat.mul_ne_zero (fun k => h0 (.inl ((rdok_zero hxo).2 k))) (fun k => h0 (.inr ((rdok_zero hyo).2 k)))
        exact congrArg rndE (canon_rnd hm hok)
    · rw [flt2 hv.1 hv.2 hp, if_neg (by decide), rndB_bad hz.2 hp]
  · next hv => cases h
/-- half of the least number -/
theorem tiny_rnd {p : Nat} (h0 : 8 ≤ p) (h1 : p ≤ 512) (s up : Bool) : rndS s 1 (-16385) false p up = some (if up != s then ⟨s, 1, -16384⟩ else .zero) := by
  have hb : bits 1 = 1 := by decide
  have hu : max ((-16385 : Int) + (1 : Nat) - p) (-16384) = -16384 := by omega
  have hl : rlost 1 (-16385) (-16384) = true := by decide
  have hw : rlow 1 (-16385) (-16384) = 0 := by decide
  have key : ∀ u : Bool, rcut 1 (-16385) false p u = some (if u then ⟨false, 1, -16384⟩ else .zero) := by
    intro u
    cases u with
    | false =>
      rw [rcut_at (q := 0) hb hu (by simp [hl, hw]) (by rw [bits_zero]; decide), canon_zero]; rfl
    | true =>
      rw [rcut_at (q := 1) hb hu (by simp [hl, hw]) (by rw [hb]; decide), canon_odd (by decide)]; rfl
  unfold rndS sgnR
  rw [key]
  cases s with
  | false => simp
  | true =>
    rw [if_pos rfl, Option.map_some]
    cases up with
    | false => rfl
    | true => show some (Dy.opp .zero) = _; rw [zero_opp]; rfl
/-- the greatest number of p bits -/
def topD (p : Nat) : Dy := ⟨false, 2 ^ p - 1, 16384 - p⟩
theorem odd_top {p : Nat} (h : 0 < p) : (2 ^ p - 1) % 2 = 1 := by
  have e : 2 ^ p = 2 ^ (p - 1) * 2 := by rw [← Nat.pow_succ]; congr 1; omega
  have := two_pow_pos (p - 1)
  omega
theorem topD_ok {p : Nat} (h0 : 8 ≤ p) (h1 : p ≤ 512) : (topD p).ok := by
  refine .inr ⟨odd_top (by omega), ?_, ?_, ?_, ?_⟩
  · show bits (2 ^ p - 1) ≤ 4096; rw [bits_two_pow_sub_one (by omega)]; omega
  · show -16384 ≤ (16384 : Int) - p; omega
  · show (16384 : Int) - p ≤ 16384; omega
  · show (bits (2 ^ p - 1) : Int) + (16384 - p) ≤ 16384; rw [bits_two_pow_sub_one (by omega)]; omega
theorem huge_rnd {p : Nat} (h0 : 8 ≤ p) (h1 : p ≤ 512) (up : Bool) : rndS false 1 16384 false p up = if up then none else some (topD p) := by
  have hb : bits 1 = 1 := by decide
  have hu : runit 1 16384 p = 16385 - p := by unfold runit; rw [hb]; omega
  have hq : rq 1 16384 false p up = 2 ^ (p - 1) := by
    unfold rq rlow rlost
    rw [hu, decide_eq_true (show (16385 : Int) - p ≤ 16384 by omega), if_pos (show (16385 : Int) - p ≤ 16384 by omega)]
    rw [show ((16384 : Int) - (16385 - p)).toNat = p - 1 by omega]
    simp
  have h2 : rcut 1 16384 false p up = if up then none else some (topD p) := by
    unfold rcut
    rw [hq, hu, bits_two_pow, if_pos (by omega), canon_odd (odd_top (by omega))]; rfl
  unfold rndS sgnR
  rw [Bool.bne_false, h2]; rfl
/-- a positive number, rounded down, is one of p bits, and not 0 -/
theorem pos_down {N p : Nat} {e : Int} {more : Bool} (hp : 8 ≤ p) (h1 : p ≤ 512) (hN : p ≤ bits N) (he : -16384 ≤ e) : ∃ d : Dy, rndS false N e more p false = some d ∧ isP p d ∧ d.neg = false ∧ d.m ≠ 0 := by
  have hne : N ≠ 0 := fun h => by rw [h, bits_zero] at hN; omega
  unfold rndS sgnR
  rw [Bool.bne_false, if_neg (by decide)]
  cases hr : rcut N e more p false with
  | none => unfold rcut at hr; split at hr <;> simp at hr
  | some d =>
    have hd := rcut_isP (by omega) (by omega) hr
    refine ⟨d, rfl, hd.1, hd.2, ?_⟩
    unfold rcut at hr
    split at hr
    · rw [if_neg (by decide)] at hr
      cases hr
      rw [canon_odd (odd_top (by omega))]
      exact Nat.ne_of_gt (by have := Nat.pow_le_pow_right (n := 2) (by decide) hp; show 0 < 2 ^ p - 1; omega)
    · cases hr
      have hq : rq N e more p false ≠ 0 := by
        unfold rq
        rw [Bool.false_and, if_neg (by decide)]
        unfold rlow runit
        split
        · exact Nat.mul_ne_zero hne (two_pow_ne _)
        · have h2 := two_pow_le_of_bits hne
          have h3 : (max (e + (bits N : Int) - p) (-16384) - e).toNat ≤ bits N - 1 := by omega
          exact Nat.ne_of_gt (Nat.div_pos (Nat.le_trans (Nat.pow_le_pow_right (by decide) h3) h2) (two_pow_pos _))
      unfold canon
      rw [if_neg hq]
      have ho := (oddp_spec hq).1
      show oddp _ ≠ 0
      intro h
      rw [h] at ho
      exact absurd ho (by decide)
/-- the quotient of the greatest number -/
theorem top_div {p M : Nat} (hp : 8 ≤ p) (h1 : p ≤ 512) (hM : M ≠ 0) (hM2 : bits M ≤ 32) {more : Bool} {e : Int} (he : e = 16384 - p - (3 + bits M : Nat) - -31) :
    ∃ d : Dy, rndS false ((2 ^ p - 1) * 2 ^ (3 + bits M) / M) e more p false = some d ∧ isP p d ∧ d.neg = false ∧ d.m ≠ 0 := by
  refine pos_down hp h1 ?_ (by omega)
  have hm := lt_two_pow_bits M
  have h2 : 2 ^ p ≤ (2 ^ p - 1) * 2 := by have := Nat.pow_le_pow_right (n := 2) (by decide) hp; omega
  have h3 : 2 ^ p ≤ (2 ^ p - 1) * 2 ^ (3 + bits M) / M := by
    rw [Nat.le_div_iff_mul_le (by omega)]
    calc 2 ^ p * M ≤ (2 ^ p - 1) * 2 * 2 ^ bits M := Nat.mul_le_mul h2 (by omega)
      _ = (2 ^ p - 1) * 2 ^ (1 + bits M) := by rw [Nat.mul_assoc, Nat.pow_add]
      _ ≤ _ := Nat.mul_le_mul_left _ (Nat.pow_le_pow_right (by decide) (by omega))
  have h4 := bits_ge_of h3
  omega
end Go.Proofs.YtkkiinbgjjjcoaaGreatDoor
end
