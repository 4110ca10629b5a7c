/-
  Walks: natural.divide, DivMod, of any numbers.
  Walks: round.div of any numbers.
  Walks: the law RoundBetween.
  Plain: rounded roots squared, exact products, the quotient of a product and one factor.
  Plain: smaller intervals have smaller norms.
  Plain: exact sums of products of numbers at ends of intervals are in the sums of products of the intervals, and the norm bounds them; no program in sight.
  Walks: slices.EqualFunc at []api.Dyadic, []api.Interval.
  Walks: interval.Has of a valid interval and a valid number; the law's inside.
-/
import Derived.Test.YtdidocdpjiiedaaGreatDoorMApM
import Derived.Test.YtdidocdpjiiedaaGreatDoorMSumH
import Derived.Test.YtdidocdpjiiedaaGreatDoorMRoSq
import Derived.Deep.Cut
import Derived.Test.YtdidocdpjiiedaaGreatDoorMRoAdd
import Derived.Test.YtdidocdpjiiedaaGreatDoorMNrmP
import Derived.Test.YtdidocdpjiiedaaGreatDoorMIncP
import Derived.Test.YtdidocdpjiiedaaGreatDoorMNum7
import Derived.Test.YtdidocdpjiiedaaGreatDoorMIvE
import Derived.Test.YtdidocdpjiiedaaGreatDoorMSign
import Derived.Deep.DeepFit
import Derived.Test.YtdidocdpjiiedaaGreatDoorMInsM
section
namespace Go.Proofs.YtdidocdpjiiedaaGreatDoor
open Go.RowKit

end Go.Proofs.YtdidocdpjiiedaaGreatDoor
end

section
namespace Go.Proofs.YtdidocdpjiiedaaGreatDoor
open Go.RowKit

/-- how many bits more are computed -/
def quoK (x y : RD) (p : Int) (t : Nat) : Nat := (p + t + bits (val y.xs) - bits (val x.xs)).toNat
/-- a quotient, rounded -/
def divB (x y : RD) (p : Int) (up : Bool) : Dy × Int :=
  if fltB p [x, y] = 0 then (if y.xs.length = 0 then (.zero, 10) else if x.xs.length = 0 then (.zero, 0) else rndE (quoR (x.neg != y.neg) (val x.xs) (val y.xs) (x.e - y.e) p.toNat up (quoK x y p 2)))
  else (.zero, fltB p [x, y])
end Go.Proofs.YtdidocdpjiiedaaGreatDoor
end

section
namespace Go.Proofs.YtdidocdpjiiedaaGreatDoor
open Go.RowKit

theorem isB_iff {w : World} {x : RD} (hx : x.ok w) {p : Int} : isB x p = true ↔ (8 ≤ p ∧ p ≤ 512) ∧ (bits x.dy.m : Int) ≤ p := by
  unfold isB
  rw [Bool.and_eq_true, decide_eq_true_eq, decide_eq_true_eq, fltB_zero]
  constructor
  · rintro ⟨⟨_, h1, h2⟩, h3⟩; exact ⟨⟨h1, h2⟩, h3⟩
  · rintro ⟨⟨h1, h2⟩, h3⟩; exact ⟨⟨by simp [hx.2], h1, h2⟩, h3⟩
/-- a number of p bits is rounded to itself, without an error -/
theorem isB_code {w : World} {x : RD} (hx : x.ok w) {p : Int} (h : isB x p = true) (up : Bool) : (rndB x p up).2 = 0 := by
  obtain ⟨⟨h1, h2⟩, h3⟩ := (isB_iff hx).1 h
  rw [rndB_rnd hx h1 h2]
  have hP : isP p.toNat x.dy := ⟨rdok_dy hx, by omega⟩
  cases up with
  | false =>
    cases hr : rnd 0 x.iv p.toNat false with
    | none => exact absurd (Int.le_refl _) (down_none (by omega) (by omega) hr _ hP)
    | some d => rfl
  | true =>
    cases hr : rnd 0 x.iv p.toNat true with
    | none => exact absurd (Int.le_refl _) (up_none (by omega) (by omega) hr _ hP)
    | some d => rfl
theorem near_bad {x : RD} {p : Int} (h : (rndB x p false).2 ≠ 0 ∨ (rndB x p true).2 ≠ 0) : (nearR x p).2 ≠ 0 := by
  unfold nearR
  by_cases h1 : (rndB x p false).2 = 0
  · rw [if_neg (by rw [h1]; simp), if_pos (h.resolve_left (fun k => k h1))]
    exact h.resolve_left (fun k => k h1)
  · rw [if_pos h1]; exact h1
theorem near_good {x : RD} {p : Int} (h1 : (rndB x p false).2 = 0) (h2 : (rndB x p true).2 = 0) : ∃ b : Bool, nearR x p = (if b then (rndB x p true).1 else (rndB x p false).1, 0) := by
  refine ⟨nearB (rndB x p false).1 (rndB x p true).1 (difD x.dy (rndB x p false).1) (difD (rndB x p true).1 x.dy), ?_⟩
  unfold nearR
  rw [if_neg (by rw [h1]; simp), if_neg (by rw [h2]; simp)]
theorem law_between {w w1 w2 : World} {x lo hi : RD} (hx : x.ok w) (hl : lo.ok w1) (hh : hi.ok w2) {p : Int} (h1 : (rndB x p false).2 = 0) (h2 : (rndB x p true).2 = 0) (el : lo.dy = (rndB x p false).1) (eh : hi.dy = (rndB x p true).1) :
    isB lo p = true ∧ isB hi p = true ∧ lo.iv ≤ x.iv ∧ x.iv ≤ hi.iv ∧ (cmpZ lo.iv hi.iv == 0) = isB x p := by
  obtain ⟨g1, g2⟩ := rndB_good h1
  have r1 := rndB_some hx h1
  have r2 := rndB_some hx h2
  rw [← el] at r1
  rw [← eh] at r2
  obtain ⟨a1, a2, _⟩ := down_spec (by omega) (by omega) r1
  obtain ⟨b1, b2, _⟩ := up_spec (by omega) (by omega) r2
  have hb := between_eq (rdok_dy hx) (by omega : 0 < p.toNat) (by omega) r1 r2
  refine ⟨(isB_iff hl).2 ⟨⟨g1, g2⟩, by have := a1.2; omega⟩, (isB_iff hh).2 ⟨⟨g1, g2⟩, by have := b1.2; omega⟩, a2, b2, ?_⟩
  rw [Bool.eq_iff_iff, isB_iff hx, beq_iff_eq]
  have hc : cmpZ lo.iv hi.iv = 0 ↔ lo.dy.iv = hi.dy.iv := by
    show cmpZ lo.dy.iv hi.dy.iv = 0 ↔ _
    unfold cmpZ; split <;> (try split) <;> omega
  rw [hc, hb]
  constructor
  · intro h; exact ⟨⟨g1, g2⟩, by omega⟩
  · rintro ⟨_, h⟩; omega
theorem keepS9 {w w' : World} (k : Kp w w') {b1 b2 b3 : Nat} {x y z : RD} (h : w.cell? ⟨b1, 0, none⟩ = some (.bool x.neg) ∧ w.cell? ⟨b1, 1, none⟩ = some (.slice x.a x.xs.length x.c) ∧ w.cell? ⟨b1, 2, none⟩ = some (.int .i64 x.e) ∧ w.cell? ⟨b2, 0, none⟩ = some (.bool y.neg) ∧ w.cell? ⟨b2, 1, none⟩ = some (.slice y.a y.xs.length y.c) ∧ w.cell? ⟨b2, 2, none⟩ = some (.int .i64 y.e) ∧ w.cell? ⟨b3, 0, none⟩ = some (.bool z.neg) ∧ w.cell? ⟨b3, 1, none⟩ = some (.slice z.a z.xs.length z.c) ∧ w.cell? ⟨b3, 2, none⟩ = some (.int .i64 z.e)) : w'.cell? ⟨b1, 0, none⟩ = some (.bool x.neg) ∧ w'.cell? ⟨b1, 1, none⟩ = some (.slice x.a x.xs.length x.c) ∧ w'.cell? ⟨b1, 2, none⟩ = some (.int .i64 x.e) ∧ w'.cell? ⟨b2, 0, none⟩ = some (.bool y.neg) ∧ w'.cell? ⟨b2, 1, none⟩ = some (.slice y.a y.xs.length y.c) ∧ w'.cell? ⟨b2, 2, none⟩ = some (.int .i64 y.e) ∧ w'.cell? ⟨b3, 0, none⟩ = some (.bool z.neg) ∧ w'.cell? ⟨b3, 1, none⟩ = some (.slice z.a z.xs.length z.c) ∧ w'.cell? ⟨b3, 2, none⟩ = some (.int .i64 z.e) := by
  obtain ⟨a0, a1, a2, c0, c1, c2, d0, d1, d2⟩ := h
  exact ⟨k.cell a0, k.cell a1, k.cell a2, k.cell c0, k.cell c1, k.cell c2, k.cell d0, k.cell d1, k.cell d2⟩
/-- does the law stop at once? -/
def outB (x : RD) : Bool := [x].any lng2 || !x.vl
end Go.Proofs.YtdidocdpjiiedaaGreatDoor
end

section
namespace Go.Proofs.YtdidocdpjiiedaaGreatDoor

theorem two_cast (k : Nat) : (2 : Int) ^ k = ((2 ^ k : Nat) : Int) := by norm_cast
theorem pow_sq {q s : Nat} (h : 2 ^ q ≤ s) : 2 ^ (q + q) ≤ s * s := by rw [Nat.pow_add]; exact Nat.mul_le_mul h h
theorem odd_isP {p n : Nat} {d : Dy} (h : isP p d) (hn : d.iv = (n : Int)) (ho : n % 2 = 1) : n < 2 ^ p := by
  have hneg : d.neg = false := by
    cases hd : d.neg with
    | false => rfl
    | true => have := Dy.iv_neg hd; omega
  have h1 : d.av = n := by have := Dy.iv_pos hneg; omega
  have h2 : d.m * 2 ^ (d.e + 16384).toNat = n := h1
  have hj : (d.e + 16384).toNat = 0 := by
    rcases Nat.eq_zero_or_pos (d.e + 16384).toNat with h3 | h3
    · exact h3
    · obtain ⟨j, hj⟩ : ∃ j, (d.e + 16384).toNat = j + 1 := ⟨_, (Nat.sub_add_cancel h3).symm⟩
      rw [hj, Nat.pow_succ, ← Nat.mul_assoc] at h2
      omega
  rw [hj, Nat.pow_zero, Nat.mul_one] at h2
  rw [← h2]
  exact bits_le.1 h.2
theorem rcut_grid {m p k f : Nat} {more up : Bool} (hm : m ≠ 0) (hb : p < bits m) (hf : f < 2 ^ k) (hmore : more = decide (f ≠ 0)) :
    rcut m ((k : Int) - 16384) more p up = rnd 0 ((m * 2 ^ k + f : Nat) : Int) p up := by
  have h := rcut_more (m := m) (k := k) (f := f) (p := p) (e := (k : Int) - 16384) (more := false) (up := up) hm hf (fun _ => hb)
  rw [Bool.false_or, ← hmore] at h
  rw [h]
  have h0 : 0 < m * 2 ^ k := Nat.mul_pos (Nat.pos_of_ne_zero hm) (two_pow_pos k)
  unfold rnd
  rw [if_neg (by omega), if_neg (by omega), Int.natAbs_natCast, show (k : Int) - 16384 - (k : Int) = -16384 - ((0 : Nat) : Int) by omega]
theorem rcut_down_le {m p k : Nat} {more : Bool} {d : Dy} (hm : m ≠ 0) (hb : p < bits m) (hp : 0 < p) (hp2 : p ≤ 4096) (hk : 0 < k) (h : rcut m ((k : Int) - 16384) more p false = some d) :
    isP p d ∧ 0 ≤ d.iv ∧ d.iv ≤ ((m * 2 ^ k : Nat) : Int) := by
  obtain ⟨h1, h2⟩ := rcut_isP hp hp2 h
  have h3 : 0 ≤ d.iv := by have := Dy.iv_pos h2; omega
  have hmp := lt_bits.1 hb
  have hml : m ≤ m * 2 ^ k := Nat.le_mul_of_pos_right m (two_pow_pos k)
  have h2k : 2 ^ k = 2 * 2 ^ (k - 1) := by rw [← Nat.pow_succ']; congr 1; omega
  have he : m * 2 ^ k = 2 * (m * 2 ^ (k - 1)) := by rw [h2k, Nat.mul_left_comm]
  refine ⟨h1, h3, ?_⟩
  cases more with
  | false =>
    rw [rcut_grid (f := 0) hm hb (two_pow_pos k) (by simp)] at h
    exact (down_spec hp hp2 h).2.1
  | true =>
    rw [rcut_grid (f := 1) hm hb (by have := two_pow_pos (k - 1); omega) (by simp)] at h
    have h4 := (down_spec hp hp2 h).2.1
    rcases Int.lt_or_eq_of_le h4 with h5 | h5
    · omega
    · have := odd_isP h1 h5 (by omega); omega
theorem rcut_up_ge {m p k : Nat} {more : Bool} {d : Dy} (hm : m ≠ 0) (hb : p < bits m) (hp : 0 < p) (hp2 : p ≤ 4096) (hk : 0 < k) (h : rcut m ((k : Int) - 16384) more p true = some d) :
    isP p d ∧ 0 ≤ d.iv ∧ (((if more then m + 1 else m) * 2 ^ k : Nat) : Int) ≤ d.iv := by
  obtain ⟨h1, h2⟩ := rcut_isP hp hp2 h
  have h3 : 0 ≤ d.iv := by have := Dy.iv_pos h2; omega
  have hmp := lt_bits.1 hb
  have hml : m ≤ m * 2 ^ k := Nat.le_mul_of_pos_right m (two_pow_pos k)
  have h2k : 2 ^ k = 2 * 2 ^ (k - 1) := by rw [← Nat.pow_succ']; congr 1; omega
  have he : m * 2 ^ k = 2 * (m * 2 ^ (k - 1)) := by rw [h2k, Nat.mul_left_comm]
  have hpk := two_pow_pos (k - 1)
  refine ⟨h1, h3, ?_⟩
  cases more with
  | false =>
    rw [rcut_grid (f := 0) hm hb (two_pow_pos k) (by simp)] at h
    exact (up_spec hp hp2 h).2.1
  | true =>
    rw [rcut_grid (f := 2 ^ k - 1) hm hb (by omega) (by symm; apply decide_eq_true; omega)] at h
    have h4 := (up_spec hp hp2 h).2.1
    rw [if_pos rfl, Nat.add_mul, Nat.one_mul]
    rcases Int.lt_or_eq_of_le h4 with h5 | h5
    · omega
    · have := odd_isP h1 h5.symm (by omega); omega
theorem rcut_up_some {m p k j : Nat} {more : Bool} (hm : m ≠ 0) (hb : p < bits m) (hp : 0 < p) (hp2 : p ≤ 4096) (hk : 0 < k) (hj : (m + 1) * 2 ^ k ≤ 2 ^ j) (hj2 : j ≤ 32767) :
    ∃ d, rcut m ((k : Int) - 16384) more p true = some d := by
  have hpk := two_pow_pos (k - 1)
  have h2k : 2 ^ k = 2 * 2 ^ (k - 1) := by rw [← Nat.pow_succ']; congr 1; omega
  obtain ⟨f, hf, hmf⟩ : ∃ f, f < 2 ^ k ∧ more = decide (f ≠ 0) := by
    cases more with
    | false => exact ⟨0, by omega, by simp⟩
    | true => exact ⟨1, by omega, by simp⟩
  rw [rcut_grid hm hb hf hmf]
  cases hr : rnd 0 ((m * 2 ^ k + f : Nat) : Int) p true with
  | some d => exact ⟨d, rfl⟩
  | none =>
    have hd : isP p ⟨false, 1, (j : Int) - 16384⟩ := by
      have hb1 : bits 1 = 1 := by decide
      refine ⟨.inr ⟨rfl, ?_, ?_, ?_, ?_⟩, ?_⟩ <;> (show _; simp only [hb1]; omega)
    refine absurd ?_ (up_none hp hp2 hr _ hd)
    show _ ≤ sg false (1 * 2 ^ ((j : Int) - 16384 + 16384).toNat)
    rw [Nat.one_mul, show ((j : Int) - 16384 + 16384).toNat = j by omega]
    show _ ≤ ((2 ^ j : Nat) : Int)
    rw [Nat.add_mul, Nat.one_mul] at hj
    omega
theorem rcut_down_some {m p : Nat} {e : Int} {more : Bool} : ∃ d, rcut m e more p false = some d := by
  unfold rcut
  split
  · exact ⟨_, rfl⟩
  · exact ⟨_, rfl⟩
/-- the root of m 2^e, K more bits computed, rounded: its square is at most the number, or at least -/
theorem root_spec {m K s p : Nat} {e H : Int} (hm : m ≠ 0) (hbm : bits m ≤ 4096) (he0 : -16384 ≤ e) (he1 : (bits m : Int) + e ≤ 16384) (hp0 : 8 ≤ p) (hp1 : p ≤ 512) (hK : 2 * p + 4 ≤ bits m + K) (hK2 : K ≤ 1029) (hH : e - K = 2 * H) (hs : isRt (m * 2 ^ K) s) :
    (∃ d, rcut s H (!decide (s * s = m * 2 ^ K)) p false = some d ∧ isP p d ∧ 0 ≤ d.iv ∧ d.iv * d.iv ≤ sg false (m * 2 ^ (e + 16384).toNat) * 2 ^ 16384) ∧
    ∃ d, rcut s H (!decide (s * s = m * 2 ^ K)) p true = some d ∧ isP p d ∧ 0 ≤ d.iv ∧ sg false (m * 2 ^ (e + 16384).toNat) * 2 ^ 16384 ≤ d.iv * d.iv := by
  have hN : 2 ^ (2 * p + 3) ≤ m * 2 ^ K := by
    have h1 := bits_mul_pow (k := K) hm
    exact lt_bits.1 (by omega)
  have hs0 : 2 ^ (p + 1) ≤ s := by
    apply Classical.byContradiction
    intro hc
    have h1 : s + 1 ≤ 2 ^ (p + 1) := by omega
    have h2 := Nat.mul_le_mul h1 h1
    rw [← Nat.pow_add] at h2
    have h3 : 2 ^ (p + 1 + (p + 1)) ≤ 2 ^ (2 * p + 3) := Nat.pow_le_pow_right (by decide) (by omega)
    have := hs.2
    omega
  have hsb : p < bits s := lt_bits.2 (Nat.le_trans (Nat.pow_le_pow_right (by decide) (by omega)) hs0)
  have hsn : s ≠ 0 := by have := two_pow_pos (p + 1); omega
  obtain ⟨k, hk⟩ : ∃ k : Nat, H = (k : Int) - 16384 := ⟨(H + 16384).toNat, by omega⟩
  have hkp : 0 < k := by omega
  subst hk
  -- the number, in steps of 2^-32768
  have hX : sg false (m * 2 ^ (e + 16384).toNat) * 2 ^ 16384 = ((m * 2 ^ K * (2 ^ k * 2 ^ k) : Nat) : Int) := by
    show ((m * 2 ^ (e + 16384).toNat : Nat) : Int) * 2 ^ 16384 = _
    generalize hq : (16384 : Nat) = q
    have h1 := two_cast q
    rw [h1, ← Int.natCast_mul, Nat.mul_assoc, ← Nat.pow_add, ← Nat.pow_add, Nat.mul_assoc, ← Nat.pow_add]
    congr 3
    omega
  rw [hX]
  have hlo : s * s * (2 ^ k * 2 ^ k) ≤ m * 2 ^ K * (2 ^ k * 2 ^ k) := Nat.mul_le_mul_right _ hs.1
  have hhi : m * 2 ^ K * (2 ^ k * 2 ^ k) ≤ (if (!decide (s * s = m * 2 ^ K)) = true then s + 1 else s) * (if (!decide (s * s = m * 2 ^ K)) = true then s + 1 else s) * (2 ^ k * 2 ^ k) := by
    apply Nat.mul_le_mul_right
    by_cases hq : s * s = m * 2 ^ K
    · rw [decide_eq_true hq]; simp [hq]
    · rw [decide_eq_false hq]; have := hs.2; simp; omega
  have hsq (a : Nat) : a * a * (2 ^ k * 2 ^ k) = a * 2 ^ k * (a * 2 ^ k) := by
    rw [Nat.mul_mul_mul_comm]
  rw [hsq] at hlo hhi
  constructor
  · obtain ⟨d, hd⟩ := rcut_down_some (m := s) (p := p) (e := (k : Int) - 16384) (more := !decide (s * s = m * 2 ^ K))
    obtain ⟨h1, h2, h3⟩ := rcut_down_le hsn hsb (by omega) (by omega) hkp hd
    refine ⟨d, hd, h1, h2, ?_⟩
    have h4 := Int.mul_le_mul h3 h3 h2 (by omega)
    rw [← Int.natCast_mul] at h4
    omega
  · obtain ⟨t, ht⟩ : ∃ t : Nat, t = 30000 := ⟨_, rfl⟩
    have hj : (s + 1) * 2 ^ k ≤ 2 ^ t := by
      obtain ⟨q, hq⟩ : ∃ q : Nat, q = 2600 := ⟨_, rfl⟩
      have h1 : s < 2 ^ q := by
        apply Classical.byContradiction
        intro hc
        have h2 : 2 ^ q ≤ s := by omega
        have h3 := pow_sq h2
        have h4 : m * 2 ^ K < 2 ^ (bits m + K) := by rw [Nat.pow_add]; exact Nat.mul_lt_mul_of_pos_right (lt_two_pow_bits m) (two_pow_pos K)
        have h5 : 2 ^ (bits m + K) ≤ 2 ^ (q + q) := Nat.pow_le_pow_right (by decide) (by omega)
        have := hs.1
        omega
      have h2 : (s + 1) * 2 ^ k ≤ 2 ^ q * 2 ^ k := Nat.mul_le_mul_right _ (by omega)
      rw [← Nat.pow_add] at h2
      exact Nat.le_trans h2 (Nat.pow_le_pow_right (by decide) (by omega))
    obtain ⟨d, hd⟩ := rcut_up_some (more := !decide (s * s = m * 2 ^ K)) hsn hsb (by omega : 0 < p) (by omega) hkp hj (by omega)
    obtain ⟨h1, h2, h3⟩ := rcut_up_ge hsn hsb (by omega) (by omega) hkp hd
    refine ⟨d, hd, h1, h2, ?_⟩
    have h4 := Int.mul_le_mul h3 h3 (by omega) h2
    rw [← Int.natCast_mul] at h4
    omega
/-- what SqrtDown and SqrtUp return for a valid number that is not below 0 -/
def sqS (x : RD) (p : Nat) (up : Bool) (d : Dy) : Prop :=
  isP p d ∧ 0 ≤ d.iv ∧ if up then x.iv * 2 ^ 16384 ≤ d.iv * d.iv else d.iv * d.iv ≤ x.iv * 2 ^ 16384
theorem sqS_zero {x : RD} (p : Nat) (up : Bool) (h : val x.xs = 0) : sqS x p up .zero := by
  have h0 : x.iv = 0 := Dy.iv_eq_zero.2 h
  refine ⟨isP.zero p, by rw [Dy.iv_zero]; omega, ?_⟩
  rw [h0, Dy.iv_zero, Int.zero_mul, Int.zero_mul]
  cases up
  · exact Int.le_refl 0
  · exact Int.le_refl 0
theorem sqS_le {d : Dy} {X A : Int} (hd : 0 ≤ d.iv) (hA : X = A * A) (h : d.iv * d.iv ≤ X) : d.iv ≤ (A.natAbs : Int) := by
  apply Classical.byContradiction
  intro hc
  have h1 : (A.natAbs : Int) + 1 ≤ d.iv := by omega
  have h2 := Int.mul_le_mul h1 h1 (by omega) hd
  have h3 : A * A = (A.natAbs : Int) * (A.natAbs : Int) := (Int.natAbs_mul_self).symm
  have h4 : ((A.natAbs : Int) + 1) * ((A.natAbs : Int) + 1) = (A.natAbs : Int) * A.natAbs + 2 * A.natAbs + 1 := by rw [Int.add_mul, Int.mul_add]; omega
  omega
theorem sqS_ge {d : Dy} {X A : Int} (hd : 0 ≤ d.iv) (hA : X = A * A) (h : X ≤ d.iv * d.iv) : (A.natAbs : Int) ≤ d.iv := by
  apply Classical.byContradiction
  intro hc
  have h1 : d.iv + 1 ≤ (A.natAbs : Int) := by omega
  have h2 := Int.mul_le_mul h1 h1 (by omega) (by omega)
  have h3 : A * A = (A.natAbs : Int) * (A.natAbs : Int) := (Int.natAbs_mul_self).symm
  have h4 : (d.iv + 1) * (d.iv + 1) = d.iv * d.iv + 2 * d.iv + 1 := by rw [Int.add_mul, Int.mul_add]; omega
  omega
/-- an exact product's value -/
theorem prodD_iv {a b : Dy} (ha : a.ok) (hb : b.ok) (h : (chk (prodD a b)).2 = 0) : (prodD a b).iv * 2 ^ 16384 = a.iv * b.iv := by
  by_cases ha0 : a.m = 0
  · have h1 := Dy.eq_zero ha ha0
    subst h1
    have h2 : prodD .zero b = .zero := by unfold prodD; show canon _ (0 * b.m) _ = _; rw [Nat.zero_mul, canon_zero]
    rw [h2, Dy.iv_zero, Int.zero_mul, Int.zero_mul]
  · by_cases hb0 : b.m = 0
    · have h1 := Dy.eq_zero hb hb0
      subst h1
      have h2 : prodD a .zero = .zero := by unfold prodD; show canon _ (a.m * 0) _ = _; rw [Nat.mul_zero, canon_zero]
      rw [h2, Dy.iv_zero, Int.mul_zero, Int.zero_mul]
    · have oa := ok_odd ha ha0
      have ob := ok_odd hb hb0
      have oo := odd_mul oa ob
      have e1 : prodD a b = ⟨a.neg != b.neg, a.m * b.m, a.e + b.e⟩ := by
        unfold prodD canon
        rw [if_neg (by omega), oddp_odd oo, tz_odd oo]
        simp
      have hr : -16384 ≤ a.e + b.e := by
        have h2 := chk0 h
        unfold chk at h
        rw [e1] at h
        by_cases hi : inrB (a.m * b.m) (a.e + b.e) = true
        · unfold inrB at hi
          rw [decide_eq_true_eq] at hi
          rcases hi with hi | hi
          · exact absurd (bits_eq_zero.1 hi) (by omega)
          · exact hi.2.1
        · simp [hi] at h
      have hea : -16384 ≤ a.e := by rcases ha with h1 | h1 <;> omega
      have heb : -16384 ≤ b.e := by rcases hb with h1 | h1 <;> omega
      rw [e1]
      show sg (a.neg != b.neg) (a.m * b.m * 2 ^ (a.e + b.e + 16384).toNat) * 2 ^ 16384 = sg a.neg (a.m * 2 ^ (a.e + 16384).toNat) * sg b.neg (b.m * 2 ^ (b.e + 16384).toNat)
      generalize hq : (16384 : Nat) = q
      have hc : a.m * b.m * 2 ^ (a.e + b.e + 16384).toNat * 2 ^ q = a.m * 2 ^ (a.e + 16384).toNat * (b.m * 2 ^ (b.e + 16384).toNat) := by
        rw [Nat.mul_mul_mul_comm, ← Nat.pow_add, Nat.mul_assoc, ← Nat.pow_add]
        congr 2
        omega
      have h2 := two_cast q
      rw [h2]
      generalize 2 ^ q = Q at *
      generalize a.m * b.m * 2 ^ (a.e + b.e + 16384).toNat = u at *
      generalize a.m * 2 ^ (a.e + 16384).toNat = v at *
      generalize b.m * 2 ^ (b.e + 16384).toNat = t at *
      have hc2 : (u : Int) * (Q : Int) = (v : Int) * (t : Int) := by rw [← Int.natCast_mul, ← Int.natCast_mul, hc]
      cases a.neg <;> cases b.neg <;> simp [sg, Int.neg_mul, Int.mul_neg, hc2]
/-- the quotient of a product and one of its factors is the other one, rounded -/
theorem divB_back {w w' w'' : World} {m a b : RD} (hm : m.ok w) (ha : a.ok w') (hb : b.ok w'') (hb0 : val b.xs ≠ 0) (e : m.dy = prodD a.dy b.dy) {p : Int} (h0 : 8 ≤ p) (h1 : p ≤ 512) (up : Bool) : divB m b p up = rndB a p up := by
  have hf : fltB p [m, b] = 0 := fltB_zero.2 ⟨by simp [hm.2, hb.2], h0, h1⟩
  have hbl : b.xs.length ≠ 0 := fun h => hb0 ((rdok_zero hb).1 h)
  unfold divB
  rw [if_pos hf, if_neg hbl, rndB_rnd ha h0 h1]
  have em : val m.xs = (prodD a.dy b.dy).m := by rw [← e]; rfl
  by_cases ha0 : val a.xs = 0
  · have hd : prodD a.dy b.dy = .zero := by
      unfold prodD
      show canon _ (val a.xs * val b.xs) _ = _
      rw [ha0, Nat.zero_mul, canon_zero]
    have hml : m.xs.length = 0 := (rdok_zero hm).2 (by show val m.xs = 0; rw [em, hd]; rfl)
    rw [if_pos hml]
    have hz : a.iv = 0 := Dy.iv_eq_zero.2 ha0
    rw [hz, rnd_zero]
    rfl
  · have oa := ok_odd (rdok_dy ha) ha0
    have ob := ok_odd (rdok_dy hb) hb0
    have oo := odd_mul oa ob
    have e1 : prodD a.dy b.dy = ⟨a.neg != b.neg, val a.xs * val b.xs, a.e + b.e⟩ := by
      unfold prodD canon
      show (if val a.xs * val b.xs = 0 then _ else _) = _
      rw [if_neg (by intro h; rw [show a.dy.m * b.dy.m = val a.xs * val b.xs from rfl, h] at oo; omega)]
      rw [oddp_odd oo, tz_odd oo]
      simp only [RD.dy]
      simp
    have m1 : m.neg = (a.neg != b.neg) := by have := congrArg Dy.neg (e.trans e1); exact this
    have m2 : val m.xs = val a.xs * val b.xs := by have := congrArg Dy.m (e.trans e1); exact this
    have m3 : m.e = a.e + b.e := by have := congrArg Dy.e (e.trans e1); exact this
    have hml : m.xs.length ≠ 0 := fun h => by
      have : val m.xs = 0 := (rdok_zero hm).1 h
      rw [m2] at this
      rcases Nat.mul_eq_zero.1 this with h | h
      · exact ha0 h
      · exact hb0 h
    rw [if_neg hml, m1, m2, m3]
    unfold quoR
    have q1 (K : Nat) : val a.xs * val b.xs * 2 ^ K / val b.xs = val a.xs * 2 ^ K := by
      rw [Nat.mul_right_comm, Nat.mul_div_cancel _ (Nat.pos_of_ne_zero hb0)]
    have q2 (K : Nat) : val a.xs * val b.xs * 2 ^ K % val b.xs = 0 := by
      rw [Nat.mul_right_comm]; exact Nat.mul_mod_left _ _
    rw [q1, q2, bits_zero]
    have hn : ((a.neg != b.neg) != b.neg) = a.neg := by cases a.neg <;> cases b.neg <;> rfl
    rw [hn, show decide (0 < 0) = false from rfl]
    unfold rndS
    rw [show a.e + b.e - b.e = a.e by omega, rcut_shift ha0]
    have := rndS_rnd (rdok_dy ha) (by omega : p.toNat ≤ 512) up
    unfold rndS at this
    exact congrArg rndE this
end Go.Proofs.YtdidocdpjiiedaaGreatDoor
end

section
namespace Go.Proofs.YtdidocdpjiiedaaGreatDoor
open Go.RowKit

theorem maxD_iv (a b : Dy) : (maxD a b).iv = if b.iv ≤ a.iv then a.iv else b.iv := by unfold maxD; split <;> rfl
theorem magP_inc {X Y : PI} (h : insP X Y) (hy : Y.all = false) (oX : X.ok) : (magP X).iv ≤ (magP Y).iv := by
  obtain ⟨hx, h1, h2⟩ := h.of_all hy
  have h3 := PI.ok_le oX
  unfold magP
  rw [if_neg (by rw [hx]; decide), if_neg (by rw [hy]; decide), maxD_iv, maxD_iv, Dy.absv_iv, Dy.absv_iv, Dy.absv_iv, Dy.absv_iv]
  split <;> split <;> omega
theorem adP_inc {a b c d : Dy} {p q : Nat} (hp : 8 ≤ p) (hpq : p ≤ q) (hq : q ≤ 512) (h : c.iv + d.iv ≤ a.iv + b.iv) (h0 : (adP a b p true).2 = 0) : (adP c d q true).2 = 0 ∧ (adP c d q true).1.iv ≤ (adP a b p true).1.iv :=
  up_inc (K := 0) (by omega) hpq (by omega) h h0
/-- the rows r' lie inside of r -/
def inR (r' r : List RI) : Prop := r'.length = r.length ∧ ∀ (j : Nat) (x' x : RI), r'[j]? = some x' → r[j]? = some x → x'.pl.ok ∧ insP x'.pl x.pl
theorem inR.tail {x' x : RI} {r' r : List RI} (h : inR (x' :: r') (x :: r)) : inR r' r := ⟨by simpa using h.1, fun j y' y hy' hy => h.2 (j + 1) y' y (by simpa using hy') (by simpa using hy)⟩
theorem sumN_inc {p q : Nat} (hp : 8 ≤ p) (hpq : p ≤ q) (hq : q ≤ 512) : ∀ (r r' : List RI) (s s' t : Dy), inR r' r → s'.iv ≤ s.iv → sumN p r s = some t → ∃ t', sumN q r' s' = some t' ∧ t'.iv ≤ t.iv
  | [], [], s, s', t, _, hs, h => by
    unfold sumN at h ⊢
    cases h
    exact ⟨s', rfl, hs⟩
  | [], x' :: r', s, s', t, hR, _, _ => by have := hR.1; simp at this
  | x :: r, [], s, s', t, hR, _, _ => by have := hR.1; simp at this
  | x :: r, x' :: r', s, s', t, hR, hs, h => by
    obtain ⟨ok1, in1⟩ := hR.2 0 x' x rfl rfl
    unfold sumN at h ⊢
    by_cases hxa : x.all = true
    · rw [if_pos hxa] at h; cases h
    · rw [if_neg hxa] at h
      have hxf : x.pl.all = false := by show x.all = false; simpa using hxa
      by_cases he : (adP s (magP x.pl) p true).2 ≠ 0
      · rw [if_pos he] at h; cases h
      · rw [if_neg he] at h
        have hm := magP_inc in1 hxf ok1
        have ha := adP_inc (a := s) (b := magP x.pl) (c := s') (d := magP x'.pl) hp hpq hq (by omega) (by omega)
        have hxa' : ¬ x'.all = true := by have := (in1.of_all hxf).1; show ¬ x'.pl.all = true; rw [this]; decide
        rw [if_neg hxa', if_neg (by omega)]
        exact sumN_inc hp hpq hq r r' _ _ t hR.tail ha.2 h
/-- the matrix Z lies inside of m -/
def inM (Z m : List (List RI)) : Prop := Z.length = m.length ∧ ∀ (i : Nat) (r' r : List RI), Z[i]? = some r' → m[i]? = some r → inR r' r
theorem inM.tail {x' x : List RI} {r' r : List (List RI)} (h : inM (x' :: r') (x :: r)) : inM r' r := ⟨by simpa using h.1, fun j y' y hy' hy => h.2 (j + 1) y' y (by simpa using hy') (by simpa using hy)⟩
theorem nrmN_inc {p q : Nat} (hp : 8 ≤ p) (hpq : p ≤ q) (hq : q ≤ 512) : ∀ (m m' : List (List RI)) (s s' t : Dy), inM m' m → s'.iv ≤ s.iv → nrmN p m s = some t → ∃ t', nrmN q m' s' = some t' ∧ t'.iv ≤ t.iv
  | [], [], s, s', t, _, hs, h => by
    unfold nrmN at h ⊢
    cases h
    exact ⟨s', rfl, hs⟩
  | [], x' :: r', s, s', t, hR, _, _ => by have := hR.1; simp at this
  | x :: r, [], s, s', t, hR, _, _ => by have := hR.1; simp at this
  | x :: r, x' :: r', s, s', t, hR, hs, h => by
    rw [nrmN_cons] at h ⊢
    cases hsum : sumN p x .zero with
    | none => rw [hsum] at h; cases h
    | some u =>
      rw [hsum] at h
      obtain ⟨u', hu, hle⟩ := sumN_inc hp hpq hq x x' .zero .zero u (hR.2 0 x' x rfl rfl) (Int.le_refl _) hsum
      rw [hu]
      unfold contN at h ⊢
      refine nrmN_inc hp hpq hq r r' _ _ t hR.tail ?_ h
      split <;> split <;> omega
theorem nrmO_inc {m Z : List (List RI)} {p q : Nat} (hp : 8 ≤ p) (hpq : p ≤ q) (hq : q ≤ 512) (vm : vlM m = true) (vZ : vlM Z = true) (h : inM Z m) {t : Dy} (ht : nrmO m p = some t) : ∃ t', nrmO Z q = some t' ∧ t'.iv ≤ t.iv := by
  unfold nrmO at ht ⊢
  have p1 : preB (p : Int) = true := preB_iff.2 ⟨by omega, by omega⟩
  have p2 : preB (q : Int) = true := preB_iff.2 ⟨by omega, by omega⟩
  rw [vm, p1, if_pos (by decide)] at ht
  rw [vZ, p2, if_pos (by decide)]
  exact nrmN_inc hp hpq hq m Z .zero .zero t h (Int.le_refl _) ht
/-- elements inside, and more bits -/
theorem inM_at {Z m : List (List RI)} (vm : vlM m = true) (h : inM Z m) {i j : Nat} (hi : i < m.length) (hj : j < colsM m) : (atP Z i j).ok ∧ insP (atP Z i j) (atP m i j) := by
  obtain ⟨r, x, hr, hx, _, hat⟩ := vlM_get vm hi hj
  have hi2 : i < Z.length := by rw [h.1]; exact hi
  have hR := h.2 i _ r (List.getElem?_eq_getElem hi2) hr
  have hjr := (List.getElem?_eq_some_iff.1 hx).1
  have hj2 : j < (Z[i]).length := by rw [hR.1]; exact hjr
  have := hR.2 j _ x (List.getElem?_eq_getElem hj2) hx
  rw [atP_eq (List.getElem?_eq_getElem hi2) (List.getElem?_eq_getElem hj2), atP_eq hr hx]
  exact this
end Go.Proofs.YtdidocdpjiiedaaGreatDoor
end

section
namespace Go.Proofs.YtdidocdpjiiedaaGreatDoor
open Go.RowKit

/-- a number is an end of an interval -/
def endR (x : RI) (d : RD) : Prop := d = x.lo ∨ d = x.hi
def endsR (r : List RI) (l : List RD) : Prop := l.length = r.length ∧ ∀ (j : Nat) (x : RI) (d : RD), r[j]? = some x → l[j]? = some d → endR x d
def endsM (m : List (List RI)) (L : List (List RD)) : Prop := L.length = m.length ∧ ∀ (i : Nat) (r : List RI) (l : List RD), m[i]? = some r → L[i]? = some l → endsR r l
theorem endR.ok {w : World} {x : RI} {d : RD} (h : endR x d) (hx : x.rd w) (hv : x.vl = true) : d.rd w ∧ d.vl = true := by
  have hz : ∀ y : RD, y.zr = true → y.vl = true := fun y hy => by
    obtain ⟨h1, h2, h3⟩ := RD.zr_parts.1 hy
    unfold RD.vl; rw [h1, h2, h3]; exact rdZero_vl
  have hp : x.lo.vl = true ∧ x.hi.vl = true := by
    unfold RI.vl at hv
    split at hv
    · rw [Bool.and_eq_true] at hv; exact ⟨hz _ hv.1, hz _ hv.2⟩
    · rw [Bool.and_eq_true, Bool.and_eq_true] at hv; exact ⟨hv.1, hv.2.1⟩
  rcases h with rfl | rfl
  · exact ⟨hx.1, hp.1⟩
  · exact ⟨hx.2, hp.2⟩
theorem endR.has {w : World} {x : RI} {d : RD} (h : endR x d) (hx : x.rd w) (hv : x.vl = true) : hasV x.pl d.iv := by
  have ho := RI.pl_ok hx hv
  rcases h with rfl | rfl
  · exact hasV.lo ho
  · exact hasV.hi ho
theorem endR.mag {x : RI} {d : RD} (h : endR x d) (ha : x.all = false) : (d.iv.natAbs : Int) ≤ (magP x.pl).iv := by
  unfold magP maxD
  rw [if_neg (by show ¬ x.all = true; rw [ha]; decide)]
  have e1 : x.pl.lo.absv.iv = (x.lo.iv.natAbs : Int) := Dy.absv_iv
  have e2 : x.pl.hi.absv.iv = (x.hi.iv.natAbs : Int) := Dy.absv_iv
  split
  · next h2 => rcases h with rfl | rfl <;> omega
  · next h2 => rcases h with rfl | rfl <;> omega
/-- sums -/
def sumZ (c : Nat → Int) : Nat → Int
  | 0 => 0
  | t + 1 => sumZ c t + c t
theorem sumZ_F (c : Nat → Int) : ∀ n, sumZ c (n + 1) = sumF c n
  | 0 => by show 0 + c 0 = c 0; omega
  | n + 1 => by show sumZ c (n + 1) + c (n + 1) = sumF c n + c (n + 1); rw [sumZ_F c n]
theorem sumZ_congr {c d : Nat → Int} : ∀ {n : Nat}, (∀ t, t < n → c t = d t) → sumZ c n = sumZ d n
  | 0, _ => rfl
  | n + 1, h => by show sumZ c n + c n = sumZ d n + d n; rw [sumZ_congr (fun t ht => h t (by omega)), h n (by omega)]
/-- v is the sum of the first k products, exactly -/
def dotS (l z : List RD) (k : Nat) (v : Int) : Prop := ∃ c : Nat → Int, (∀ (t : Nat) (x y : RD), t < k → l[t]? = some x → z[t]? = some y → c t * 2 ^ 16384 = x.iv * y.iv) ∧ v = sumZ c k
theorem dotS.zero (l z : List RD) : dotS l z 0 0 := ⟨fun _ => 0, fun t x y h => by omega, rfl⟩
theorem dotS.step {l z : List RD} {k : Nat} {v q : Int} {x y : RD} (h : dotS l z k v) (hx : l[k]? = some x) (hy : z[k]? = some y) (hq : q * 2 ^ 16384 = x.iv * y.iv) : dotS l z (k + 1) (v + q) := by
  obtain ⟨c, h1, rfl⟩ := h
  refine ⟨fun t => if t = k then q else c t, fun t a b ht ha hb => ?_, ?_⟩
  · by_cases e : t = k
    · subst e; rw [hx] at ha; rw [hy] at hb; cases ha; cases hb; show (if t = t then q else c t) * _ = _; rw [if_pos rfl]; exact hq
    · show (if t = k then q else c t) * _ = _; rw [if_neg e]; exact h1 t a b (by omega) ha hb
  · show sumZ c k + q = sumZ _ k + (if k = k then q else c k)
    rw [if_pos rfl, sumZ_congr (c := fun t => if t = k then q else c t) (d := c) (fun t ht => if_neg (by omega))]
theorem dot_inside {w w' : World} {p n : Nat} (hp : 8 ≤ p) (hp2 : p ≤ 512) {r x : List RI} {l z : List RD} {v : Int} (hn : n + 1 = r.length) (hl : r.length = x.length) (rr : ∀ u ∈ r, u.rd w ∧ u.vl = true) (rx : ∀ u ∈ x, u.rd w' ∧ u.vl = true)
    (e1 : endsR r l) (e2 : endsR x z) (h : dotS l z (n + 1) v) : hasV (dotF p (rowG r) (rowG x) n) v := by
  obtain ⟨c, h1, rfl⟩ := h
  rw [sumZ_F]
  have key : ∀ t, t ≤ n → ∃ (a b : RI) (d f : RD), r[t]? = some a ∧ x[t]? = some b ∧ l[t]? = some d ∧ z[t]? = some f := fun t ht =>
    ⟨_, _, _, _, List.getElem?_eq_getElem (by omega), List.getElem?_eq_getElem (by omega), List.getElem?_eq_getElem (by have := e1.1; omega), List.getElem?_eq_getElem (by have := e2.1; omega)⟩
  refine dotF_has hp hp2 (a := fun t => (l.getD t rdZero).iv) (b := fun t => (z.getD t rdZero).iv) (n := n) (fun t ht => ?_) (fun t ht => ?_) (fun t ht => ?_) n (Nat.le_refl _)
  · obtain ⟨a, b, d, f, g1, g2, g3, g4⟩ := key t ht
    have := (e1.2 t a d g1 g3).has (rr a (List.mem_of_getElem? g1)).1 (rr a (List.mem_of_getElem? g1)).2
    rw [rowG_eq g1, List.getD_eq_getElem?_getD, g3]; exact this
  · obtain ⟨a, b, d, f, g1, g2, g3, g4⟩ := key t ht
    have := (e2.2 t b f g2 g4).has (rx b (List.mem_of_getElem? g2)).1 (rx b (List.mem_of_getElem? g2)).2
    rw [rowG_eq g2, List.getD_eq_getElem?_getD, g4]; exact this
  · obtain ⟨a, b, d, f, g1, g2, g3, g4⟩ := key t ht
    rw [List.getD_eq_getElem?_getD, List.getD_eq_getElem?_getD, g3, g4]
    exact h1 t d f (by omega) g3 g4
/-- the sum of magnitudes, exact -/
def magS : List RI → Int
  | [] => 0
  | x :: r => (magP x.pl).iv + magS r
theorem magS_snoc (x : RI) : ∀ r : List RI, magS (r ++ [x]) = magS r + (magP x.pl).iv
  | [] => by show (magP x.pl).iv + 0 = 0 + _; omega
  | y :: r => by show (magP y.pl).iv + magS (r ++ [x]) = (magP y.pl).iv + magS r + _; rw [magS_snoc x r]; omega
theorem sumN_le {p : Nat} (hp : 8 ≤ p) (hp2 : p ≤ 512) : ∀ {r : List RI} {s t : Dy}, sumN p r s = some t → (∀ x ∈ r, x.all = false) ∧ s.iv + magS r ≤ t.iv
  | [], s, t, h => by
    unfold sumN at h; cases h
    exact ⟨fun x h => (List.not_mem_nil h).elim, by show s.iv + 0 ≤ s.iv; omega⟩
  | x :: r, s, t, h => by
    unfold sumN at h
    by_cases ha : x.all = true
    · rw [if_pos ha] at h; cases h
    · rw [if_neg ha] at h
      by_cases he : (adP s (magP x.pl) p true).2 ≠ 0
      · rw [if_pos he] at h; cases h
      · rw [if_neg he] at h
        obtain ⟨h1, h2⟩ := sumN_le hp hp2 h
        have u := (rndK_up (K := 0) (by omega) (by omega) (rndE_some (show (rndE (rnd 0 (s.iv + (magP x.pl).iv) p true)).2 = 0 from Classical.byContradiction he))).2.1
        rw [Int.pow_zero, Int.mul_one] at u
        have u2 : s.iv + (magP x.pl).iv ≤ (adP s (magP x.pl) p true).1.iv := u
        refine ⟨fun y hy => ?_, ?_⟩
        · rcases List.mem_cons.1 hy with rfl | hy
          · exact Bool.eq_false_iff.2 ha
          · exact h1 y hy
        · show s.iv + ((magP x.pl).iv + magS r) ≤ t.iv; omega
theorem nrmN_le {p : Nat} (hp : 8 ≤ p) (hp2 : p ≤ 512) : ∀ {m : List (List RI)} {s t : Dy}, nrmN p m s = some t → s.iv ≤ t.iv ∧ ∀ r ∈ m, (∀ x ∈ r, x.all = false) ∧ magS r ≤ t.iv
  | [], s, t, h => by
    unfold nrmN at h; cases h
    exact ⟨Int.le_refl _, fun r h => (List.not_mem_nil h).elim⟩
  | r :: m, s, t, h => by
    rw [nrmN_cons] at h
    cases hs : sumN p r .zero with
    | none => rw [hs] at h; cases h
    | some q =>
      rw [hs] at h
      have h3 : nrmN p m (if s.iv < q.iv then q else s) = some t := h
      obtain ⟨h4, h5⟩ := nrmN_le hp hp2 h3
      obtain ⟨h6, h7⟩ := sumN_le hp hp2 hs
      rw [Dy.iv_zero] at h7
      have h8 : s.iv ≤ t.iv ∧ q.iv ≤ t.iv := by
        split at h4 <;> omega
      refine ⟨h8.1, fun r' hr => ?_⟩
      rcases List.mem_cons.1 hr with rfl | hr
      · exact ⟨h6, by omega⟩
      · exact h5 r' hr
theorem nrmO_le {m : List (List RI)} {p : Int} {t : Dy} (h : nrmO m p = some t) : 0 ≤ t.iv ∧ ∀ r ∈ m, (∀ x ∈ r, x.all = false) ∧ magS r ≤ t.iv := by
  unfold nrmO at h
  split at h
  · next h2 =>
    rw [Bool.and_eq_true] at h2
    have h3 := preB_iff.1 h2.2
    have := nrmN_le (by omega) (by omega) h
    rw [Dy.iv_zero] at this
    exact this
  · cases h
theorem sum_bound {c : Nat → Int} {r : List RI} {l z : List RD} {M K : Int} (hK : 0 ≤ K) (e1 : endsR r l) (hz : z.length = l.length) (ha : ∀ x ∈ r, x.all = false) (hM : ∀ y ∈ z, (y.iv.natAbs : Int) ≤ M) :
    ∀ n, n ≤ r.length → (∀ (t : Nat) (x y : RD), t < n → l[t]? = some x → z[t]? = some y → c t * K = x.iv * y.iv) → ((sumZ c n).natAbs : Int) * K ≤ magS (r.take n) * M
  | 0, _, _ => by show ((0 : Int).natAbs : Int) * K ≤ 0 * M; simp
  | n + 1, hn, hc => by
    have ih := sum_bound hK e1 hz ha hM n (by omega) (fun t x y ht => hc t x y (by omega))
    obtain ⟨a, hxa⟩ : ∃ a, r[n]? = some a := ⟨_, List.getElem?_eq_getElem (by omega)⟩
    obtain ⟨d, hd⟩ : ∃ d, l[n]? = some d := ⟨_, List.getElem?_eq_getElem (by have := e1.1; omega)⟩
    obtain ⟨f, hf⟩ : ∃ f, z[n]? = some f := ⟨_, List.getElem?_eq_getElem (by have := e1.1; omega)⟩
    have h1 := hc n d f (by omega) hd hf
    have h2 := (e1.2 n a d hxa hd).mag (ha a (List.mem_of_getElem? hxa))
    have h3 := hM f (List.mem_of_getElem? hf)
    have h4 : ((c n).natAbs : Int) * K ≤ (magP a.pl).iv * M := by
      have e : ((c n).natAbs : Int) * K = ((d.iv.natAbs : Int)) * (f.iv.natAbs : Int) := by
        have e3 := congrArg Int.natAbs h1
        rw [Int.natAbs_mul, Int.natAbs_mul] at e3
        have e4 : (K.natAbs : Int) = K := Int.natAbs_of_nonneg hK
        rw [← e4]
        exact_mod_cast e3
      rw [e]
      have h5 : (0 : Int) ≤ (f.iv.natAbs : Int) := Int.natCast_nonneg _
      have h6 : (0 : Int) ≤ (d.iv.natAbs : Int) := Int.natCast_nonneg _
      exact Int.mul_le_mul h2 h3 h5 (Int.le_trans h6 h2)
    have h7 : r.take (n + 1) = r.take n ++ [a] := by rw [List.take_add_one, hxa]; rfl
    rw [h7, magS_snoc, Int.add_mul]
    have h8 : ((sumZ c (n + 1)).natAbs : Int) ≤ ((sumZ c n).natAbs : Int) + ((c n).natAbs : Int) := by
      show ((sumZ c n + c n).natAbs : Int) ≤ _
      omega
    have h9 := Int.mul_le_mul_of_nonneg_right h8 hK
    rw [Int.add_mul] at h9
    omega
/-- the norm times the greatest number bounds the exact result -/
theorem norm_bound {m : List (List RI)} {p : Int} {t : Dy} {r : List RI} {l z : List RD} {v M B : Int} (h : nrmO m p = some t) (hr : r ∈ m) (e1 : endsR r l) (hz : z.length = l.length) (hM : ∀ y ∈ z, (y.iv.natAbs : Int) ≤ M) (hM0 : 0 ≤ M) (hd : dotS l z r.length v)
    (hB : B * 2 ^ 16384 = t.iv * M) : (v.natAbs : Int) ≤ B := by
  obtain ⟨c, h1, rfl⟩ := hd
  obtain ⟨h2, h3⟩ := nrmO_le h
  obtain ⟨h4, h5⟩ := h3 r hr
  have hK := twoK_pos 16384
  generalize (2 : Int) ^ 16384 = K at *
  have h6 := sum_bound (Int.le_of_lt hK) e1 hz h4 hM r.length (Nat.le_refl _) h1
  rw [List.take_length] at h6
  have h7 := Int.mul_le_mul_of_nonneg_right h5 hM0
  refine Int.le_of_mul_le_mul_right ?_ hK
  rw [hB]; omega
end Go.Proofs.YtdidocdpjiiedaaGreatDoor
end

section
namespace Go.Proofs.YtdidocdpjiiedaaGreatDoor
open Go.RowKit

/-- equally long, and alike by p -/
def allDI (p : RD → RI → Bool) (zs : List RD) (ys : List RI) : Bool := decide (zs.length = ys.length) && (zs.zip ys).all fun q => p q.1 q.2
theorem allDI_true {p : RD → RI → Bool} {zs : List RD} {ys : List RI} : allDI p zs ys = true ↔ zs.length = ys.length ∧ ∀ (i : Nat) (x : RD) (y : RI), zs[i]? = some x → ys[i]? = some y → p x y = true := by
  unfold allDI
  rw [Bool.and_eq_true, decide_eq_true_eq, List.all_eq_true]
  refine and_congr_right fun hl => ⟨fun h i x y hx hy => ?_, fun h q hq => ?_⟩
  · refine h (x, y) (List.mem_of_getElem? (i := i) ?_)
    rw [List.getElem?_zip_eq_some]; exact ⟨hx, hy⟩
  · obtain ⟨i, hi⟩ := List.getElem?_of_mem hq
    have hi2 := List.getElem?_zip_eq_some.1 hi
    exact h i _ _ hi2.1 hi2.2
theorem allDI_false {p : RD → RI → Bool} {zs : List RD} {ys : List RI} {i : Nat} {x : RD} {y : RI} (hx : zs[i]? = some x) (hy : ys[i]? = some y) (h : p x y = false) : allDI p zs ys = false := by
  cases ha : allDI p zs ys with
  | false => rfl
  | true => rw [(allDI_true.1 ha).2 i x y hx hy] at h; cases h
/-- the function g answers p at each two elements, in whatever later world, and keeps all that was there -/
def AnsDI (P : Program) (g : FuncId) (cap : Array Value) (w : World) (zs : List RD) (ys : List RI) (p : RD → RI → Bool) : Prop :=
  Enters P g ∧ ∀ x, x ∈ zs → ∀ y, y ∈ ys → ∀ w1, Kp w w1 → Calls P g (#[.agg #[.bool x.neg, .slice x.a x.xs.length x.c, .int .i64 x.e], .agg #[.bool y.lo.neg, .slice y.lo.a y.lo.xs.length y.lo.c, .int .i64 y.lo.e, .bool y.hi.neg, .slice y.hi.a y.hi.xs.length y.hi.c, .int .i64 y.hi.e, .bool y.all]] ++ cap) w1 fun e w2 => e = .returned (.bool (p x y)) ∧ Kp w1 w2

set_option maxHeartbeats 4000000 in
theorem eqfDI (a b' : Option Addr) (zs : List RD) (ys : List RI) (c d : Nat) (g : FuncId) (cap : Array Value) (w : World) (p : RD → RI → Bool) (hm : zs.length ≤ 1100000) (h : RowD w a zs) (h' : RowI w b' ys) (hp : AnsDI Tryz.prog g cap w zs ys p) :
    Calls Tryz.prog 89 #[.slice a zs.length c, .slice b' ys.length d, .func (.func g) #[] cap] w fun e w' => e = .returned (.bool (allDI p zs ys)) ∧ Kp w w' := by
  go_enter Tryz.func89, Tryz.ntmps89
  by_cases hlen : zs.length = ys.length
  · have Hlen := Lib.hid hlen
    rw [← hlen]
    clear hlen
    go_wp2
    go_loopw [17] (fun x wr => ∃ k : Nat, k ≤ zs.length ∧ x = .int .i64 k ∧ (∀ (i : Nat) (x : RD) (y : RI), zs[i]? = some x → ys[i]? = some y → i < k → p x y = true) ∧ Kp w wr) (fun x _ => zs.length - (intOf x).toNat)
    case atStart => exact ⟨0, by omega, rfl, fun i x y _ _ h1 => by omega, .refl _⟩
    case round =>
      obtain ⟨k, hk, rfl, hz, hkp⟩ := hrel
      have Hz := Lib.hid hz; clear hz
      by_cases hlt : k < zs.length
      · have hlt2 : k < ys.length := by have := Hlen.out; omega
        obtain ⟨b, o, rfl, hr, h0, h1, h2⟩ := (h.kp hkp) k (zs[k]) (List.getElem?_eq_getElem hlt)
        obtain ⟨b2, o2, rfl, hr2, j0, j1, j2, j3, j4, j5, j6⟩ := (h'.kp (hkp.alloc (.cells #[.bool zs[k].neg, .slice zs[k].a zs[k].xs.length zs[k].c, .int .i64 zs[k].e] 28))) k (ys[k]) (List.getElem?_eq_getElem hlt2)
        have Hg := Lib.hid (List.getElem?_eq_getElem hlt)
        have Hg2 := Lib.hid (List.getElem?_eq_getElem hlt2)
        have hgo : ∀ args w, (callFunc g args).run Tryz.prog w = .ok (.enter g args) w := hp.1
        have hcall := fun w1 (hk1 : Kp w w1) => hp.2 _ (List.getElem_mem hlt) _ (List.getElem_mem hlt2) w1 hk1
        clear hp h h'
        generalize zs[k] = x at *
        generalize ys[k] = y at *
        clear hlt2
        cases hq : p x y with
        | true =>
          rw [hq] at hcall
          have Hc := Lib.hid hcall
          have Hq := Lib.hid hq
          clear hcall hq
          go_wp2_with (refine (Hc.out _ ((hkp.alloc _).alloc _)).mono ?_; rintro e w2 ⟨rfl, hk2⟩)
          go_roundw
          case rel =>
            refine ⟨k + 1, by omega, by go_num, fun i x' y' hx hy hi => ?_, ((hkp.alloc _).alloc _).trans hk2⟩
            by_cases h : i = k
            · subst h; rw [Hg.out] at hx; rw [Hg2.out] at hy; cases hx; cases hy; exact Hq.out
            · exact Hz.out i x' y' hx hy (by omega)
          case measure => simp [intOf]; omega
        | false =>
          rw [hq] at hcall
          have Hc := Lib.hid hcall
          have Hq := Lib.hid (allDI_false Hg.out Hg2.out hq)
          clear hcall hq
          go_wp2_with (refine (Hc.out _ ((hkp.alloc _).alloc _)).mono ?_; rintro e w2 ⟨rfl, hk2⟩)
          go_ret
          exact ⟨ret_bool Hq.out.symm, ((hkp.alloc _).alloc _).trans hk2⟩
      · have Hthis := Lib.hid (allDI_true.2 ⟨Hlen.out, fun i x y hx hy => Hz.out i x y hx hy (by have := (List.getElem?_eq_some_iff.1 hx).1; omega)⟩)
        go_wp2
        go_ret
        exact ⟨ret_bool Hthis.out.symm, hkp⟩
  · have hl2 : ((zs.length : Int) == (ys.length : Int)) = false := beq_eq_false_iff_ne.2 (by omega)
    have H := Lib.hid (show allDI p zs ys = false by unfold allDI; rw [decide_eq_false hlen]; rfl)
    clear hlen
    go_wp2
    go_ret
    exact ⟨ret_bool H.out.symm, .refl _⟩
end Go.Proofs.YtdidocdpjiiedaaGreatDoor
end

section
namespace Go.Proofs.YtdidocdpjiiedaaGreatDoor
open Go.RowKit

/-- is v in X? -/
def hasX (X : PI) (v : Int) : Bool := X.all || (decide (X.lo.iv ≤ v) && decide (v ≤ X.hi.iv))
theorem hasX_of {X : PI} {v : Int} (h : hasV X v) : hasX X v = true := by
  unfold hasX
  rcases h with h | ⟨h1, h2⟩
  · rw [h]; rfl
  · rw [decide_eq_true h1, decide_eq_true h2]; simp
theorem IHas_vl (x : RI) (d : RD) (w : World) (hx : x.rd w) (hd : d.rd w) (vx : x.vl = true) (vd : d.vl = true) :
    Calls Tryz.prog 91 #[.agg #[.bool x.lo.neg, .slice x.lo.a x.lo.xs.length x.lo.c, .int .i64 x.lo.e, .bool x.hi.neg, .slice x.hi.a x.hi.xs.length x.hi.c, .int .i64 x.hi.e, .bool x.all], .agg #[.bool d.neg, .slice d.a d.xs.length d.c, .int .i64 d.e]] w fun e w' => e = .returned (.bool (hasX x.pl d.iv)) ∧ Kp w w' := by
  cases hxa : x.all with
  | true =>
    have H := Lib.hid (show hasX x.pl d.iv = true by unfold hasX; rw [show x.pl.all = true from hxa]; rfl)
    have C1 := Lib.hid (fun (W : World) (k : Kp w W) => IValid_raw x W (hx.kp k))
    have C2 := Lib.hid (fun (W : World) (k : Kp w W) => Valid_rok d W ⟨hd.kp k, vd⟩)
    rw [vx, hxa] at C1
    clear hx hd vx vd hxa
    go_enter Tryz.func91, Tryz.ntmps91
    go_wp2_with fail
    generalize hW : ((w.alloc _).alloc _) = W at *
    have hk : Kp w W := hW ▸ ((Kp.refl w).alloc _).alloc _
    have hS : (W.cell? ⟨w.heap.size, 0, none⟩ = some (.bool x.lo.neg) ∧ W.cell? ⟨w.heap.size, 1, none⟩ = some (.slice x.lo.a x.lo.xs.length x.lo.c) ∧ W.cell? ⟨w.heap.size, 2, none⟩ = some (.int .i64 x.lo.e) ∧ W.cell? ⟨w.heap.size, 3, none⟩ = some (.bool x.hi.neg) ∧ W.cell? ⟨w.heap.size, 4, none⟩ = some (.slice x.hi.a x.hi.xs.length x.hi.c) ∧ W.cell? ⟨w.heap.size, 5, none⟩ = some (.int .i64 x.hi.e) ∧ W.cell? ⟨w.heap.size, 6, none⟩ = some (.bool true)) ∧ W.cell? ⟨w.heap.size + 1, 0, none⟩ = some (.bool d.neg) ∧ W.cell? ⟨w.heap.size + 1, 1, none⟩ = some (.slice d.a d.xs.length d.c) ∧ W.cell? ⟨w.heap.size + 1, 2, none⟩ = some (.int .i64 d.e) := by rw [← hW]; exact keep73 (Kp.refl _) (by simp)
    clear hW
    go_fit (C1.out _ hk)
    rintro e w1 ⟨rfl, k1⟩
    have hS1 := keep73 k1 hS
    have hk1 := hk.trans k1
    obtain ⟨⟨s0, s1, s2, s3, s4, s5, s6⟩, t0, t1, t2⟩ := id hS1
    go_wp2_with fail
    go_fit (C2.out _ hk1)
    rintro e w2 ⟨rfl, k2⟩
    clear s0 s1 s2 s3 s4 s5 s6 t0 t1 t2
    obtain ⟨⟨s0, s1, s2, s3, s4, s5, s6⟩, t0, t1, t2⟩ := keep73 k2 hS1
    have hk2 := hk1.trans k2
    go_wp2_with fail
    go_ret
    exact ⟨ret_bool H.out.symm, hk2⟩
  | false =>
    have ox : x.ok w := ok_of hx vx hxa
    refine (Has_ok x d w ox ⟨hd, vd⟩).mono ?_
    rintro e w' ⟨rfl, k⟩
    refine ⟨?_, k⟩
    congr 2
    unfold hasX hasI
    rw [show x.pl.all = false from hxa]
    rfl
/-- the elements that inside looks at -/
def hasDI (d : RD) (x : RI) : Bool := hasX x.pl d.iv
set_option maxHeartbeats 1000000 in
theorem has7_any (d : RD) (x : RI) (w : World) (hd : d.rd w) (hx : x.rd w) (vd : d.vl = true) (vx : x.vl = true) :
    Calls Tryz.prog 90 #[.agg #[.bool d.neg, .slice d.a d.xs.length d.c, .int .i64 d.e], .agg #[.bool x.lo.neg, .slice x.lo.a x.lo.xs.length x.lo.c, .int .i64 x.lo.e, .bool x.hi.neg, .slice x.hi.a x.hi.xs.length x.hi.c, .int .i64 x.hi.e, .bool x.all]] w fun e w' => e = .returned (.bool (hasDI d x)) ∧ Kp w w' := by
  have HC := Lib.hid (fun (W : World) (k : Kp w W) => IHas_vl x d W (hx.kp k) (hd.kp k) vx vd)
  have H : hasX x.pl d.iv = hasDI d x := rfl
  rw [← H]
  clear hd hx vd vx H
  go_enter Tryz.func90, Tryz.ntmps90
  go_wp2_with fail
  generalize hW : ((w.alloc _).alloc _) = W at *
  have hk : Kp w W := hW ▸ ((Kp.refl w).alloc _).alloc _
  clear hW
  go_fit (HC.out _ hk)
  rintro e w1 ⟨rfl, k1⟩
  go_wp2_with fail
  go_ret
  exact ⟨rfl, hk.trans k1⟩
set_option maxHeartbeats 1000000 in
theorem inside7_any (ys : List RD) (zs : List RI) (a b : Option Addr) (c d : Nat) (w : World) (hy : RowD w a ys) (hz : RowI w b zs) (hl : ys.length ≤ 1100000) (vy : ∀ x ∈ ys, x.vl = true) (vz : ∀ x ∈ zs, x.vl = true) :
    Calls Tryz.prog 37 #[.slice a ys.length c, .slice b zs.length d] w fun e w' => e = .returned (.bool (allDI hasDI ys zs)) ∧ Kp w w' := by
  have hp : AnsDI Tryz.prog 90 #[] w ys zs hasDI :=
    ⟨fun _ _ => by kernel_rfl, fun x hx y hy' w1 k => has7_any x y w1 ((hy.rd hx).kp k) ((hz.rdI hy').kp k) (vy x hx) (vz y hy')⟩
  have HC := Lib.hid (eqfDI a b ys zs c d _ _ w hasDI hl hy hz hp)
  clear hp hz hy
  go_enter Tryz.func37, Tryz.ntmps37
  go_wp2_with fail
  go_fit HC.out
  rintro e w1 ⟨rfl, k1⟩
  go_wp2_with fail
  go_ret
  exact ⟨rfl, k1⟩
end Go.Proofs.YtdidocdpjiiedaaGreatDoor
end
