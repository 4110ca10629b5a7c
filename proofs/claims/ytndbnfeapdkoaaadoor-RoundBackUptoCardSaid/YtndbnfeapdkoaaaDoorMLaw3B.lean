/-
  Walks: the law RoundBetween.
  Plain: rounded roots squared, exact products, the quotient of a product and one factor.
-/
import Derived.Test.YtndbnfeapdkoaaaDoorMLaw3P
import Derived.Deep.Cut
import Derived.Test.YtndbnfeapdkoaaaDoorMRoQ
import Derived.Test.YtndbnfeapdkoaaaDoorMProdP
section
namespace Go.Proofs.YtndbnfeapdkoaaaDoor
open Go.RowKit

theorem isB_iff {w : World} {x : RD} (hx : x.ok w) {p : Int} : isB x p = true ↔ (8 ≤ p ∧ p ≤ 512) ∧ (bits x.dy.m : Int) ≤ p := by
  unfold isB
  rw [Bool.and_eq_true, decide_eq_true_eq, decide_eq_true_eq, fltB_zero]
  constructor
  · rintro ⟨⟨_, h1, h2⟩, h3⟩; exact ⟨⟨h1, h2⟩, h3⟩
  · rintro ⟨⟨h1, h2⟩, h3⟩; exact ⟨⟨by simp [hx.2], h1, h2⟩, h3⟩
/-- a number of p bits is rounded to itself, without an error -/
theorem isB_code {w : World} {x : RD} (hx : x.ok w) {p : Int} (h : isB x p = true) (up : Bool) : (rndB x p up).2 = 0 := by
  obtain ⟨⟨h1, h2⟩, h3⟩ := (isB_iff hx).1 h
  rw [rndB_rnd hx h1 h2]
  have hP : isP p.toNat x.dy := ⟨rdok_dy hx, by omega⟩
  cases up with
  | false =>
    cases hr : rnd 0 x.iv p.toNat false with
    | none => exact absurd (Int.le_refl _) (down_none (by omega) (by omega) hr _ hP)
    | some d => rfl
  | true =>
    cases hr : rnd 0 x.iv p.toNat true with
    | none => exact absurd (Int.le_refl _) (up_none (by omega) (by omega) hr _ hP)
    | some d => rfl
theorem near_bad {x : RD} {p : Int} (h : (rndB x p false).2 ≠ 0 ∨ (rndB x p true).2 ≠ 0) : (nearR x p).2 ≠ 0 := by
  unfold nearR
  by_cases h1 : (rndB x p false).2 = 0
  · rw [if_neg (by rw [h1]; simp), if_pos (h.resolve_left (fun k => k h1))]
    exact h.resolve_left (fun k => k h1)
  · rw [if_pos h1]; exact h1
theorem near_good {x : RD} {p : Int} (h1 : (rndB x p false).2 = 0) (h2 : (rndB x p true).2 = 0) : ∃ b : Bool, nearR x p = (if b then (rndB x p true).1 else (rndB x p false).1, 0) := by
  refine ⟨nearB (rndB x p false).1 (rndB x p true).1 (difD x.dy (rndB x p false).1) (difD (rndB x p true).1 x.dy), ?_⟩
  unfold nearR
  rw [if_neg (by rw [h1]; simp), if_neg (by rw [h2]; simp)]
theorem law_between {w w1 w2 : World} {x lo hi : RD} (hx : x.ok w) (hl : lo.ok w1) (hh : hi.ok w2) {p : Int} (h1 : (rndB x p false).2 = 0) (h2 : (rndB x p true).2 = 0) (el : lo.dy = (rndB x p false).1) (eh : hi.dy = (rndB x p true).1) :
    isB lo p = true ∧ isB hi p = true ∧ lo.iv ≤ x.iv ∧ x.iv ≤ hi.iv ∧ (cmpZ lo.iv hi.iv == 0) = isB x p := by
  obtain ⟨g1, g2⟩ := rndB_good h1
  have r1 := rndB_some hx h1
  have r2 := rndB_some hx h2
  rw [← el] at r1
  rw [← eh] at r2
  obtain ⟨a1, a2, _⟩ := down_spec (by omega) (by omega) r1
  obtain ⟨b1, b2, _⟩ := up_spec (by omega) (by omega) r2
  have hb := between_eq (rdok_dy hx) (by omega : 0 < p.toNat) (by omega) r1 r2
  refine ⟨(isB_iff hl).2 ⟨⟨g1, g2⟩, by have := a1.2; omega⟩, (isB_iff hh).2 ⟨⟨g1, g2⟩, by have := b1.2; omega⟩, a2, b2, ?_⟩
  rw [Bool.eq_iff_iff, isB_iff hx, beq_iff_eq]
  have hc : cmpZ lo.iv hi.iv = 0 ↔ lo.dy.iv = hi.dy.iv := by
    show cmpZ lo.dy.iv hi.dy.iv = 0 ↔ _
    unfold cmpZ; split <;> (try split) <;> omega
  rw [hc, hb]
  constructor
  · intro h; exact ⟨⟨g1, g2⟩, by omega⟩
  · rintro ⟨_, h⟩; omega
theorem keepS9 {w w' : World} (k : Kp w w') {b1 b2 b3 : Nat} {x y z : RD} (h : w.cell? ⟨b1, 0, none⟩ = some (.bool x.neg) ∧ w.cell? ⟨b1, 1, none⟩ = some (.slice x.a x.xs.length x.c) ∧ w.cell? ⟨b1, 2, none⟩ = some (.int .i64 x.e) ∧ w.cell? ⟨b2, 0, none⟩ = some (.bool y.neg) ∧ w.cell? ⟨b2, 1, none⟩ = some (.slice y.a y.xs.length y.c) ∧ w.cell? ⟨b2, 2, none⟩ = some (.int .i64 y.e) ∧ w.cell? ⟨b3, 0, none⟩ = some (.bool z.neg) ∧ w.cell? ⟨b3, 1, none⟩ = some (.slice z.a z.xs.length z.c) ∧ w.cell? ⟨b3, 2, none⟩ = some (.int .i64 z.e)) : w'.cell? ⟨b1, 0, none⟩ = some (.bool x.neg) ∧ w'.cell? ⟨b1, 1, none⟩ = some (.slice x.a x.xs.length x.c) ∧ w'.cell? ⟨b1, 2, none⟩ = some (.int .i64 x.e) ∧ w'.cell? ⟨b2, 0, none⟩ = some (.bool y.neg) ∧ w'.cell? ⟨b2, 1, none⟩ = some (.slice y.a y.xs.length y.c) ∧ w'.cell? ⟨b2, 2, none⟩ = some (.int .i64 y.e) ∧ w'.cell? ⟨b3, 0, none⟩ = some (.bool z.neg) ∧ w'.cell? ⟨b3, 1, none⟩ = some (.slice z.a z.xs.length z.c) ∧ w'.cell? ⟨b3, 2, none⟩ = some (.int .i64 z.e) := by
  obtain ⟨a0, a1, a2, c0, c1, c2, d0, d1, d2⟩ := h
  exact ⟨k.cell a0, k.cell a1, k.cell a2, k.cell c0, k.cell c1, k.cell c2, k.cell d0, k.cell d1, k.cell d2⟩
/-- does the law stop at once? -/
def outB (x : RD) : Bool := [x].any lng2 || !x.vl
end Go.Proofs.YtndbnfeapdkoaaaDoor
end

section
namespace Go.Proofs.YtndbnfeapdkoaaaDoor

theorem two_cast (k : Nat) : (2 : Int) ^ k = ((2 ^ k : Nat) : Int) := by norm_cast
theorem pow_sq {q s : Nat} (h : 2 ^ q ≤ s) : 2 ^ (q + q) ≤ s * s := by rw [Nat.pow_add]; exact Nat.mul_le_mul h h
theorem odd_isP {p n : Nat} {d : Dy} (h : isP p d) (hn : d.iv = (n : Int)) (ho : n % 2 = 1) : n < 2 ^ p := by
  have hneg : d.neg = false := by
    cases hd : d.neg with
    | false => rfl
    | true => have := Dy.iv_neg hd; omega
  have h1 : d.av = n := by have := Dy.iv_pos hneg; omega
  have h2 : d.m * 2 ^ (d.e + 16384).toNat = n := h1
  have hj : (d.e + 16384).toNat = 0 := by
    rcases Nat.eq_zero_or_pos (d.e + 16384).toNat with h3 | h3
    · exact h3
    · obtain ⟨j, hj⟩ : ∃ j, (d.e + 16384).toNat = j + 1 := ⟨_, (Nat.sub_add_cancel h3).symm⟩
      rw [hj, Nat.pow_succ, ← Nat.mul_assoc] at h2
      omega
  rw [hj, Nat.pow_zero, Nat.mul_one] at h2
  rw [← h2]
  exact bits_le.1 h.2
theorem rcut_grid {m p k f : Nat} {more up : Bool} (hm : m ≠ 0) (hb : p < bits m) (hf : f < 2 ^ k) (hmore : more = decide (f ≠ 0)) :
    rcut m ((k : Int) - 16384) more p up = rnd 0 ((m * 2 ^ k + f : Nat) : Int) p up := by
  have h := rcut_more (m := m) (k := k) (f := f) (p := p) (e := (k : Int) - 16384) (more := false) (up := up) hm hf (fun _ => hb)
  rw [Bool.false_or, ← hmore] at h
  rw [h]
  have h0 : 0 < m * 2 ^ k := Nat.mul_pos (Nat.pos_of_ne_zero hm) (two_pow_pos k)
  unfold rnd
  rw [if_neg (by omega), if_neg (by omega), Int.natAbs_natCast, show (k : Int) - 16384 - (k : Int) = -16384 - ((0 : Nat) : Int) by omega]
theorem rcut_down_le {m p k : Nat} {more : Bool} {d : Dy} (hm : m ≠ 0) (hb : p < bits m) (hp : 0 < p) (hp2 : p ≤ 4096) (hk : 0 < k) (h : rcut m ((k : Int) - 16384) more p false = some d) :
    isP p d ∧ 0 ≤ d.iv ∧ d.iv ≤ ((m * 2 ^ k : Nat) : Int) := by
  obtain ⟨h1, h2⟩ := rcut_isP hp hp2 h
  have h3 : 0 ≤ d.iv := by have := Dy.iv_pos h2; omega
  have hmp := lt_bits.1 hb
  have hml : m ≤ m * 2 ^ k := Nat.le_mul_of_pos_right m (two_pow_pos k)
  have h2k : 2 ^ k = 2 * 2 ^ (k - 1) := by rw [← Nat.pow_succ']; congr 1; omega
  have he : m * 2 ^ k = 2 * (m * 2 ^ (k - 1)) := by rw [h2k, Nat.mul_left_comm]
  refine ⟨h1, h3, ?_⟩
  cases more with
  | false =>
    rw [rcut_grid (f := 0) hm hb (two_pow_pos k) (by simp)] at h
    exact (down_spec hp hp2 h).2.1
  | true =>
    rw [rcut_grid (f := 1) hm hb (by have := two_pow_pos (k - 1); omega) (by simp)] at h
    have h4 := (down_spec hp hp2 h).2.1
    rcases Int.lt_or_eq_of_le h4 with h5 | h5
    · omega
    · have := odd_isP h1 h5 (by omega); omega
theorem rcut_up_ge {m p k : Nat} {more : Bool} {d : Dy} (hm : m ≠ 0) (hb : p < bits m) (hp : 0 < p) (hp2 : p ≤ 4096) (hk : 0 < k) (h : rcut m ((k : Int) - 16384) more p true = some d) :
    isP p d ∧ 0 ≤ d.iv ∧ (((if more then m + 1 else m) * 2 ^ k : Nat) : Int) ≤ d.iv := by
  obtain ⟨h1, h2⟩ := rcut_isP hp hp2 h
  have h3 : 0 ≤ d.iv := by have := Dy.iv_pos h2; omega
  have hmp := lt_bits.1 hb
  have hml : m ≤ m * 2 ^ k := Nat.le_mul_of_pos_right m (two_pow_pos k)
  have h2k : 2 ^ k = 2 * 2 ^ (k - 1) := by rw [← Nat.pow_succ']; congr 1; omega
  have he : m * 2 ^ k = 2 * (m * 2 ^ (k - 1)) := by rw [h2k, Nat.mul_left_comm]
  have hpk := two_pow_pos (k - 1)
  refine ⟨h1, h3, ?_⟩
  cases more with
  | false =>
    rw [rcut_grid (f := 0) hm hb (two_pow_pos k) (by simp)] at h
    exact (up_spec hp hp2 h).2.1
  | true =>
    rw [rcut_grid (f := 2 ^ k - 1) hm hb (by omega) (by symm; apply decide_eq_true; omega)] at h
    have h4 := (up_spec hp hp2 h).2.1
    rw [if_pos rfl, Nat.add_mul, Nat.one_mul]
    rcases Int.lt_or_eq_of_le h4 with h5 | h5
    · omega
    · have := odd_isP h1 h5.symm (by omega); omega
theorem rcut_up_some {m p k j : Nat} {more : Bool} (hm : m ≠ 0) (hb : p < bits m) (hp : 0 < p) (hp2 : p ≤ 4096) (hk : 0 < k) (hj : (m + 1) * 2 ^ k ≤ 2 ^ j) (hj2 : j ≤ 32767) :
    ∃ d, rcut m ((k : Int) - 16384) more p true = some d := by
  have hpk := two_pow_pos (k - 1)
  have h2k : 2 ^ k = 2 * 2 ^ (k - 1) := by rw [← Nat.pow_succ']; congr 1; omega
  obtain ⟨f, hf, hmf⟩ : ∃ f, f < 2 ^ k ∧ more = decide (f ≠ 0) := by
    cases more with
    | false => exact ⟨0, by omega, by simp⟩
    | true => exact ⟨1, by omega, by simp⟩
  rw [rcut_grid hm hb hf hmf]
  cases hr : rnd 0 ((m * 2 ^ k + f : Nat) : Int) p true with
  | some d => exact ⟨d, rfl⟩
  | none =>
    have hd : isP p ⟨false, 1, (j : Int) - 16384⟩ := by
      have hb1 : bits 1 = 1 := by decide
      refine ⟨.inr ⟨rfl, ?_, ?_, ?_, ?_⟩, ?_⟩ <;> (show _; simp only [hb1]; omega)
    refine absurd ?_ (up_none hp hp2 hr _ hd)
    show _ ≤ sg false (1 * 2 ^ ((j : Int) - 16384 + 16384).toNat)
    rw [Nat.one_mul, show ((j : Int) - 16384 + 16384).toNat = j by omega]
    show _ ≤ ((2 ^ j : Nat) : Int)
    rw [Nat.add_mul, Nat.one_mul] at hj
    omega
theorem rcut_down_some {m p : Nat} {e : Int} {more : Bool} : ∃ d, rcut m e more p false = some d := by
  unfold rcut
  split
  · exact ⟨_, rfl⟩
  · exact ⟨_, rfl⟩
/-- the root of m 2^e, K more bits computed, rounded: its square is at most the number, or at least -/
theorem root_spec {m K s p : Nat} {e H : Int} (hm : m ≠ 0) (hbm : bits m ≤ 4096) (he0 : -16384 ≤ e) (he1 : (bits m : Int) + e ≤ 16384) (hp0 : 8 ≤ p) (hp1 : p ≤ 512) (hK : 2 * p + 4 ≤ bits m + K) (hK2 : K ≤ 1029) (hH : e - K = 2 * H) (hs : isRt (m * 2 ^ K) s) :
    (∃ d, rcut s H (!decide (s * s = m * 2 ^ K)) p false = some d ∧ isP p d ∧ 0 ≤ d.iv ∧ d.iv * d.iv ≤ sg false (m * 2 ^ (e + 16384).toNat) * 2 ^ 16384) ∧
    ∃ d, rcut s H (!decide (s * s = m * 2 ^ K)) p true = some d ∧ isP p d ∧ 0 ≤ d.iv ∧ sg false (m * 2 ^ (e + 16384).toNat) * 2 ^ 16384 ≤ d.iv * d.iv := by
  have hN : 2 ^ (2 * p + 3) ≤ m * 2 ^ K := by
    have h1 := bits_mul_pow (k := K) hm
    exact lt_bits.1 (by omega)
  have hs0 : 2 ^ (p + 1) ≤ s := by
    apply Classical.byContradiction
    intro hc
    have h1 : s + 1 ≤ 2 ^ (p + 1) := by omega
    have h2 := Nat.mul_le_mul h1 h1
    rw [← Nat.pow_add] at h2
    have h3 : 2 ^ (p + 1 + (p + 1)) ≤ 2 ^ (2 * p + 3) := Nat.pow_le_pow_right (by decide) (by omega)
    have := hs.2
    omega
  have hsb : p < bits s := lt_bits.2 (Nat.le_trans (Nat.pow_le_pow_right (by decide) (by omega)) hs0)
  have hsn : s ≠ 0 := by have := two_pow_pos (p + 1); omega
  obtain ⟨k, hk⟩ : ∃ k : Nat, H = (k : Int) - 16384 := ⟨(H + 16384).toNat, by omega⟩
  have hkp : 0 < k := by omega
  subst hk
  -- the number, in steps of 2^-32768
  have hX : sg false (m * 2 ^ (e + 16384).toNat) * 2 ^ 16384 = ((m * 2 ^ K * (2 ^ k * 2 ^ k) : Nat) : Int) := by
    show ((m * 2 ^ (e + 16384).toNat : Nat) : Int) * 2 ^ 16384 = _
    generalize hq : (16384 : Nat) = q
    have h1 := two_cast q
    rw [h1, ← Int.natCast_mul, Nat.mul_assoc, ← Nat.pow_add, ← Nat.pow_add, Nat.mul_assoc, ← Nat.pow_add]
    congr 3
    omega
  rw [hX]
  have hlo : s * s * (2 ^ k * 2 ^ k) ≤ m * 2 ^ K * (2 ^ k * 2 ^ k) := Nat.mul_le_mul_right _ hs.1
  have hhi : m * 2 ^ K * (2 ^ k * 2 ^ k) ≤ (if (!decide (s * s = m * 2 ^ K)) = true then s + 1 else s) * (if (!decide (s * s = m * 2 ^ K)) = true then s + 1 else s) * (2 ^ k * 2 ^ k) := by
    apply Nat.mul_le_mul_right
    by_cases hq : s * s = m * 2 ^ K
    · rw [decide_eq_true hq]; simp [hq]
    · rw [decide_eq_false hq]; have := hs.2; simp; omega
  have hsq (a : Nat) : a * a * (2 ^ k * 2 ^ k) = a * 2 ^ k * (a * 2 ^ k) := by
    rw [Nat.mul_mul_mul_comm]
  rw [hsq] at hlo hhi
  constructor
  · obtain ⟨d, hd⟩ := rcut_down_some (m := s) (p := p) (e := (k : Int) - 16384) (more := !decide (s * s = m * 2 ^ K))
    obtain ⟨h1, h2, h3⟩ := rcut_down_le hsn hsb (by omega) (by omega) hkp hd
    refine ⟨d, hd, h1, h2, ?_⟩
    have h4 := Int.mul_le_mul h3 h3 h2 (by omega)
    rw [← Int.natCast_mul] at h4
    omega
  · obtain ⟨t, ht⟩ : ∃ t : Nat, t = 30000 := ⟨_, rfl⟩
    have hj : (s + 1) * 2 ^ k ≤ 2 ^ t := by
      obtain ⟨q, hq⟩ : ∃ q : Nat, q = 2600 := ⟨_, rfl⟩
      have h1 : s < 2 ^ q := by
        apply Classical.byContradiction
        intro hc
        have h2 : 2 ^ q ≤ s := by omega
        have h3 := pow_sq h2
        have h4 : m * 2 ^ K < 2 ^ (bits m + K) := by rw [Nat.pow_add]; exact Nat.mul_lt_mul_of_pos_right (lt_two_pow_bits m) (two_pow_pos K)
        have h5 : 2 ^ (bits m + K) ≤ 2 ^ (q + q) := Nat.pow_le_pow_right (by decide) (by omega)
        have := hs.1
        omega
      have h2 : (s + 1) * 2 ^ k ≤ 2 ^ q * 2 ^ k := Nat.mul_le_mul_right _ (by omega)
      rw [← Nat.pow_add] at h2
      exact Nat.le_trans h2 (Nat.pow_le_pow_right (by decide) (by omega))
    obtain ⟨d, hd⟩ := rcut_up_some (more := !decide (s * s = m * 2 ^ K)) hsn hsb (by omega : 0 < p) (by omega) hkp hj (by omega)
    obtain ⟨h1, h2, h3⟩ := rcut_up_ge hsn hsb (by omega) (by omega) hkp hd
    refine ⟨d, hd, h1, h2, ?_⟩
    have h4 := Int.mul_le_mul h3 h3 (by omega) h2
    rw [← Int.natCast_mul] at h4
    omega
/-- what SqrtDown and SqrtUp return for a valid number that is not below 0 -/
def sqS (x : RD) (p : Nat) (up : Bool) (d : Dy) : Prop :=
  isP p d ∧ 0 ≤ d.iv ∧ if up then x.iv * 2 ^ 16384 ≤ d.iv * d.iv else d.iv * d.iv ≤ x.iv * 2 ^ 16384
theorem sqS_zero {x : RD} (p : Nat) (up : Bool) (h : val x.xs = 0) : sqS x p up .zero := by
  have h0 : x.iv = 0 := Dy.iv_eq_zero.2 h
  refine ⟨isP.zero p, by rw [Dy.iv_zero]; omega, ?_⟩
  rw [h0, Dy.iv_zero, Int.zero_mul, Int.zero_mul]
  cases up
  · exact Int.le_refl 0
  · exact Int.le_refl 0
theorem sqS_le {d : Dy} {X A : Int} (hd : 0 ≤ d.iv) (hA : X = A * A) (h : d.iv * d.iv ≤ X) : d.iv ≤ (A.natAbs : Int) := by
  apply Classical.byContradiction
  intro hc
  have h1 : (A.natAbs : Int) + 1 ≤ d.iv := by omega
  have h2 := Int.mul_le_mul h1 h1 (by omega) hd
  have h3 : A * A = (A.natAbs : Int) * (A.natAbs : Int) := (Int.natAbs_mul_self).symm
  have h4 : ((A.natAbs : Int) + 1) * ((A.natAbs : Int) + 1) = (A.natAbs : Int) * A.natAbs + 2 * A.natAbs + 1 := by rw [Int.add_mul, Int.mul_add]; omega
  omega
theorem sqS_ge {d : Dy} {X A : Int} (hd : 0 ≤ d.iv) (hA : X = A * A) (h : X ≤ d.iv * d.iv) : (A.natAbs : Int) ≤ d.iv := by
  apply Classical.byContradiction
  intro hc
  have h1 : d.iv + 1 ≤ (A.natAbs : Int) := by omega
  have h2 := Int.mul_le_mul h1 h1 (by omega) (by omega)
  have h3 : A * A = (A.natAbs : Int) * (A.natAbs : Int) := (Int.natAbs_mul_self).symm
  have h4 : (d.iv + 1) * (d.iv + 1) = d.iv * d.iv + 2 * d.iv + 1 := by rw [Int.add_mul, Int.mul_add]; omega
  omega
/-- an exact product's value -/
theorem prodD_iv {a b : Dy} (ha : a.ok) (hb : b.ok) (h : (chk (prodD a b)).2 = 0) : (prodD a b).iv * 2 ^ 16384 = a.iv * b.iv := by
  by_cases ha0 : a.m = 0
  · have h1 := Dy.eq_zero ha ha0
    subst h1
    have h2 : prodD .zero b = .zero := by unfold prodD; show canon _ (0 * b.m) _ = _; rw [Nat.zero_mul, canon_zero]
    rw [h2, Dy.iv_zero, Int.zero_mul, Int.zero_mul]
  · by_cases hb0 : b.m = 0
    · have h1 := Dy.eq_zero hb hb0
      subst h1
      have h2 : prodD a .zero = .zero := by unfold prodD; show canon _ (a.m * 0) _ = _; rw [Nat.mul_zero, canon_zero]
      rw [h2, Dy.iv_zero, Int.mul_zero, Int.zero_mul]
    · have oa := ok_odd ha ha0
      have ob := ok_odd hb hb0
      have oo := odd_mul oa ob
      have e1 : prodD a b = ⟨a.neg != b.neg, a.m * b.m, a.e + b.e⟩ := by
        unfold prodD canon
        rw [if_neg (by omega), oddp_odd oo, tz_odd oo]
        simp
      have hr : -16384 ≤ a.e + b.e := by
        have h2 := chk0 h
        unfold chk at h
        rw [e1] at h
        by_cases hi : inrB (a.m * b.m) (a.e + b.e) = true
        · unfold inrB at hi
          rw [decide_eq_true_eq] at hi
          rcases hi with hi | hi
          · exact absurd (bits_eq_zero.1 hi) (by omega)
          · exact hi.2.1
        · simp [hi] at h
      have hea : -16384 ≤ a.e := by rcases ha with h1 | h1 <;> omega
      have heb : -16384 ≤ b.e := by rcases hb with h1 | h1 <;> omega
      rw [e1]
      show sg (a.neg != b.neg) (a.m * b.m * 2 ^ (a.e + b.e + 16384).toNat) * 2 ^ 16384 = sg a.neg (a.m * 2 ^ (a.e + 16384).toNat) * sg b.neg (b.m * 2 ^ (b.e + 16384).toNat)
      generalize hq : (16384 : Nat) = q
      have hc : a.m * b.m * 2 ^ (a.e + b.e + 16384).toNat * 2 ^ q = a.m * 2 ^ (a.e + 16384).toNat * (b.m * 2 ^ (b.e + 16384).toNat) := by
        rw [Nat.mul_mul_mul_comm, ← Nat.pow_add, Nat.mul_assoc, ← Nat.pow_add]
        congr 2
        omega
      have h2 := two_cast q
      rw [h2]
      generalize 2 ^ q = Q at *
      generalize a.m * b.m * 2 ^ (a.e + b.e + 16384).toNat = u at *
      generalize a.m * 2 ^ (a.e + 16384).toNat = v at *
      generalize b.m * 2 ^ (b.e + 16384).toNat = t at *
      have hc2 : (u : Int) * (Q : Int) = (v : Int) * (t : Int) := by rw [← Int.natCast_mul, ← Int.natCast_mul, hc]
      cases a.neg <;> cases b.neg <;> simp [sg, Int.neg_mul, Int.mul_neg, hc2]
/-- the quotient of a product and one of its factors is the other one, rounded -/
theorem divB_back {w w' w'' : World} {m a b : RD} (hm : m.ok w) (ha : a.ok w') (hb : b.ok w'') (hb0 : val b.xs ≠ 0) (e : m.dy = prodD a.dy b.dy) {p : Int} (h0 : 8 ≤ p) (h1 : p ≤ 512) (up : Bool) : divB m b p up = rndB a p up := by
  have hf : fltB p [m, b] = 0 := fltB_zero.2 ⟨by simp [hm.2, hb.2], h0, h1⟩
  have hbl : b.xs.length ≠ 0 := fun h => hb0 ((rdok_zero hb).1 h)
  unfold divB
  rw [if_pos hf, if_neg hbl, rndB_rnd ha h0 h1]
  have em : val m.xs = (prodD a.dy b.dy).m := by rw [← e]; rfl
  by_cases ha0 : val a.xs = 0
  · have hd : prodD a.dy b.dy = .zero := by
      unfold prodD
      show canon _ (val a.xs * val b.xs) _ = _
      rw [ha0, Nat.zero_mul, canon_zero]
    have hml : m.xs.length = 0 := (rdok_zero hm).2 (by show val m.xs = 0; rw [em, hd]; rfl)
    rw [if_pos hml]
    have hz : a.iv = 0 := Dy.iv_eq_zero.2 ha0
    rw [hz, rnd_zero]
    rfl
  · have oa := ok_odd (rdok_dy ha) ha0
    have ob := ok_odd (rdok_dy hb) hb0
    have oo := odd_mul oa ob
    have e1 : prodD a.dy b.dy = ⟨a.neg != b.neg, val a.xs * val b.xs, a.e + b.e⟩ := by
      unfold prodD canon
      show (if val a.xs * val b.xs = 0 then _ else _) = _
      rw [if_neg (by intro h; rw [show a.dy.m * b.dy.m = val a.xs * val b.xs from rfl, h] at oo; omega)]
      rw [oddp_odd oo, tz_odd oo]
      simp only [RD.dy]
      simp
    have m1 : m.neg = (a.neg != b.neg) := by have := congrArg Dy.neg (e.trans e1); exact this
    have m2 : val m.xs = val a.xs * val b.xs := by have := congrArg Dy.m (e.trans e1); exact this
    have m3 : m.e = a.e + b.e := by have := congrArg Dy.e (e.trans e1); exact this
    have hml : m.xs.length ≠ 0 := fun h => by
      have : val m.xs = 0 := (rdok_zero hm).1 h
      rw [m2] at this
      rcases Nat.mul_eq_zero.1 this with h | h
      · exact ha0 h
      · exact hb0 h
    rw [if_neg hml, m1, m2, m3]
    unfold quoR
    have q1 (K : Nat) : val a.xs * val b.xs * 2 ^ K / val b.xs = val a.xs * 2 ^ K := by
      rw [Nat.mul_right_comm, Nat.mul_div_cancel _ (Nat.pos_of_ne_zero hb0)]
    have q2 (K : Nat) : val a.xs * val b.xs * 2 ^ K % val b.xs = 0 := by
      rw [Nat.mul_right_comm]; exact Nat.mul_mod_left _ _
    rw [q1, q2, bits_zero]
    have hn : ((a.neg != b.neg) != b.neg) = a.neg := by cases a.neg <;> cases b.neg <;> rfl
    rw [hn, show decide (0 < 0) = false from rfl]
    unfold rndS
    rw [show a.e + b.e - b.e = a.e by omega, rcut_shift ha0]
    have := rndS_rnd (rdok_dy ha) (by omega : p.toNat ≤ 512) up
    unfold rndS at this
    exact congrArg rndE this
end Go.Proofs.YtndbnfeapdkoaaaDoor
end
