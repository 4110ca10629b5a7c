/-
  Plain: rounding of valid numbers keeps the order; what lies between; no program in sight.
  Plain: the numbers of chapter 3's example; no program in sight.
-/
import Derived.Test.YtndbnfeapdkoaaaDoorMRoF
import Derived.Test.YtndbnfeapdkoaaaDoorMWrap
import Derived.Test.YtndbnfeapdkoaaaDoorMSumH
section
namespace Go.Proofs.YtndbnfeapdkoaaaDoor
open Go.RowKit

theorem rcut_zero (p : Nat) (up : Bool) (hp : p ≤ 512) : rcut 0 0 false p up = some .zero := by
  have hu : runit 0 0 p = -(p : Int) := by unfold runit; rw [bits_zero]; omega
  have hq : rq 0 0 false p up = 0 := by
    unfold rq rlow rlost
    simp
  unfold rcut
  rw [hu, hq, bits_zero, if_neg (by omega), canon_zero]
/-- a valid number, rounded -/
theorem rndS_rnd {d : Dy} (hd : d.ok) {p : Nat} (hp : p ≤ 512) (up : Bool) : rndS d.neg d.m d.e false p up = rnd 0 d.iv p up := by
  by_cases h0 : d.m = 0
  · rw [d.eq_zero hd h0, Dy.iv_zero, rnd_zero]
    show rndS false 0 0 false p up = _
    unfold rndS sgnR
    simp [rcut_zero p up hp]
  · have he := ok_e hd
    have hk : d.e = ((d.e + 16384).toNat : Int) - 16384 - (0 : Nat) := by omega
    have h1 := rnde_grid (sg d.neg d.m) d.e 0 _ hk p up
    have h2 : d.iv = sg d.neg d.m * 2 ^ (d.e + 16384).toNat := by
      unfold Dy.iv sg
      split
      · rw [Int.neg_mul]; push_cast; rfl
      · push_cast; rfl
    rw [h2, ← h1]
    unfold rndS sgnR rnde
    have hs : sg d.neg d.m ≠ 0 := fun h => h0 (sg_eq_zero.1 h)
    rw [if_neg hs]
    cases hn : d.neg with
    | true =>
      have hlt : sg true d.m < 0 := by unfold sg; simp; omega
      rw [if_pos hlt]
      have : (sg true d.m).natAbs = d.m := by unfold sg; simp
      rw [this, if_pos rfl]
      cases up <;> rfl
    | false =>
      have hlt : ¬ sg false d.m < 0 := by unfold sg; simp
      rw [if_neg hlt]
      have : (sg false d.m).natAbs = d.m := by unfold sg; simp
      rw [this]
      simp
section
variable {p q : Nat} {S T : Int} {x y : Dy}
theorem down_spec (hp : 0 < p) (hp2 : p ≤ 4096) (h : rnd 0 S p false = some x) : isP p x ∧ x.iv ≤ S ∧ ∀ d', isP p d' → d'.iv ≤ S → d'.iv ≤ x.iv := by
  rcases rnd_down (K := 0) (S := S) hp hp2 with ⟨h1, _⟩ | ⟨d, h1, h2, h3, h4⟩
  · rw [h1] at h; cases h
  · rw [h1] at h; cases h
    simp only [Int.pow_zero, Int.mul_one] at h3 h4
    exact ⟨h2, h3, h4⟩
theorem up_spec (hp : 0 < p) (hp2 : p ≤ 4096) (h : rnd 0 S p true = some x) : isP p x ∧ S ≤ x.iv ∧ ∀ d', isP p d' → S ≤ d'.iv → x.iv ≤ d'.iv := by
  rcases rnd_up (K := 0) (S := S) hp hp2 with ⟨h1, _⟩ | ⟨d, h1, h2, h3, h4⟩
  · rw [h1] at h; cases h
  · rw [h1] at h; cases h
    simp only [Int.pow_zero, Int.mul_one] at h3 h4
    exact ⟨h2, h3, h4⟩
theorem down_none (hp : 0 < p) (hp2 : p ≤ 4096) (h : rnd 0 S p false = none) : ∀ d', isP p d' → ¬ d'.iv ≤ S := by
  rcases rnd_down (K := 0) (S := S) hp hp2 with ⟨_, h2⟩ | ⟨d, h1, _⟩
  · simpa using h2
  · rw [h1] at h; cases h
theorem up_none (hp : 0 < p) (hp2 : p ≤ 4096) (h : rnd 0 S p true = none) : ∀ d', isP p d' → ¬ S ≤ d'.iv := by
  rcases rnd_up (K := 0) (S := S) hp hp2 with ⟨_, h2⟩ | ⟨d, h1, _⟩
  · simpa using h2
  · rw [h1] at h; cases h
theorem isP.mono {d : Dy} (h : isP p d) (hpq : p ≤ q) : isP q d := ⟨h.1, Nat.le_trans h.2 hpq⟩
/-- rounding down keeps the order -/
theorem down_mono (hp : 0 < p) (hp2 : p ≤ 4096) (hST : S ≤ T) (h : rnd 0 S p false = some x) (h' : rnd 0 T p false = some y) : x.iv ≤ y.iv := by
  obtain ⟨a1, a2, _⟩ := down_spec hp hp2 h
  exact (down_spec hp hp2 h').2.2 x a1 (Int.le_trans a2 hST)
/-- with more bits it does not become worse -/
theorem down_more (hp : 0 < p) (hpq : p ≤ q) (hq2 : q ≤ 4096) (h : rnd 0 S p false = some x) (h' : rnd 0 S q false = some y) : x.iv ≤ y.iv ∧ y.iv ≤ S := by
  obtain ⟨a1, a2, _⟩ := down_spec hp (by omega) h
  obtain ⟨_, b2, b3⟩ := down_spec (by omega) hq2 h'
  exact ⟨b3 x (a1.mono hpq) a2, b2⟩
/-- both roundings are equal exactly if the number is one of p bits -/
theorem between_eq {d : Dy} (hd : d.ok) (hp : 0 < p) (hp2 : p ≤ 4096) (h : rnd 0 d.iv p false = some x) (h' : rnd 0 d.iv p true = some y) : x.iv = y.iv ↔ bits d.m ≤ p := by
  obtain ⟨a1, a2, a3⟩ := down_spec hp hp2 h
  obtain ⟨b1, b2, b3⟩ := up_spec hp hp2 h'
  constructor
  · intro e
    have : d = x := Dy.iv_inj hd a1.1 (by omega)
    rw [this]; exact a1.2
  · intro hb
    have c1 := a3 d ⟨hd, hb⟩ (Int.le_refl _)
    have c2 := b3 d ⟨hd, hb⟩ (Int.le_refl _)
    omega
end
/-- a number of which only the upper part m is seen, and whether something was lost, is rounded as the whole -/
theorem rcut_more {m k f p : Nat} {e : Int} {more up : Bool} (hm : m ≠ 0) (hf : f < 2 ^ k) (hb : (more || decide (f ≠ 0)) = true → p < bits m) :
    rcut m e (more || decide (f ≠ 0)) p up = rcut (m * 2 ^ k + f) (e - k) more p up := by
  have hN : m * 2 ^ k + f ≠ 0 := by have := Nat.mul_ne_zero hm (two_pow_ne k); omega
  have hbits : bits (m * 2 ^ k + f) = bits m + k := by
    refine bits_unique ?_ (.inr ?_)
    · have h1 := lt_two_pow_bits m
      have h2 : (m + 1) * 2 ^ k ≤ 2 ^ bits m * 2 ^ k := Nat.mul_le_mul_right _ h1
      rw [Nat.pow_add]; rw [Nat.add_mul] at h2; omega
    · have h1 := two_pow_le_of_bits hm
      have h3 := bits_pos hm
      have h2 : 2 ^ (bits m - 1) * 2 ^ k ≤ m * 2 ^ k := Nat.mul_le_mul_right _ h1
      rw [← Nat.pow_add] at h2
      rw [show bits m + k - 1 = bits m - 1 + k from by omega]; omega
  have hu : runit (m * 2 ^ k + f) (e - k) p = runit m e p := by unfold runit; rw [hbits]; congr 1; omega
  have hdiv (j : Nat) : (m * 2 ^ k + f) / 2 ^ (j + k) = m / 2 ^ j := by
    rw [Nat.pow_add, Nat.mul_comm (2 ^ j), ← Nat.div_div_eq_div_mul, Nat.add_comm, Nat.add_mul_div_right _ _ (two_pow_pos k), Nat.div_eq_of_lt hf, Nat.zero_add]
  by_cases hz : (more || decide (f ≠ 0)) = true
  · have hp := hb hz
    have hue : e < runit m e p := by unfold runit; omega
    obtain ⟨j, hj⟩ : ∃ j : Nat, runit m e p = e + j + 1 := ⟨(runit m e p - e - 1).toNat, by omega⟩
    have hl : rlow (m * 2 ^ k + f) (e - k) (runit m e p) = rlow m e (runit m e p) := by
      unfold rlow
      rw [if_neg (by omega), if_neg (by omega), show (runit m e p - (e - k)).toNat = j + 1 + k from by omega, show (runit m e p - e).toNat = j + 1 from by omega, hdiv]
    have hlost : (more || rlost (m * 2 ^ k + f) (e - k) (runit m e p)) = ((more || decide (f ≠ 0)) || rlost m e (runit m e p)) := by
      rw [hz, Bool.true_or]
      cases hmore : more with
      | true => rfl
      | false =>
        rw [hmore] at hz
        have hf0 : f ≠ 0 := by simpa using hz
        rw [Bool.false_or]
        unfold rlost
        have h2 : (m * 2 ^ k + f) % 2 ^ (runit m e p - (e - k)).toNat ≠ 0 := by
          rw [show (runit m e p - (e - k)).toNat = j + 1 + k from by omega]
          intro h
          have h3 : 2 ^ k ∣ m * 2 ^ k + f := Nat.dvd_trans (Nat.pow_dvd_pow 2 (by omega)) (Nat.dvd_of_mod_eq_zero h)
          have h4 : 2 ^ k ∣ f := (Nat.dvd_add_right (Nat.dvd_mul_left _ _)).1 h3
          exact hf0 (Nat.eq_zero_of_dvd_of_lt h4 hf)
        rw [decide_eq_false (by omega), decide_eq_false h2]; rfl
    have hq : rq (m * 2 ^ k + f) (e - k) more p up = rq m e (more || decide (f ≠ 0)) p up := by
      unfold rq
      rw [hu, hl, hlost]
    unfold rcut
    rw [hq, hu]
  · have h0 : more = false ∧ f = 0 := by
      rw [Bool.or_eq_true, not_or] at hz
      exact ⟨by simpa using hz.1, by simpa using hz.2⟩
    obtain ⟨rfl, rfl⟩ := h0
    have hl : rlow (m * 2 ^ k + 0) (e - k) (runit m e p) = rlow m e (runit m e p) := by
      unfold rlow
      rw [Nat.add_zero]
      by_cases h1 : runit m e p ≤ e - k
      · rw [if_pos h1, if_pos (by omega), Nat.mul_assoc, ← Nat.pow_add]
        congr 2; omega
      · rw [if_neg h1]
        by_cases h2 : runit m e p ≤ e
        · rw [if_pos h2]
          have h3 : k = (e - runit m e p).toNat + (runit m e p - (e - k)).toNat := by omega
          conv => lhs; lhs; rw [h3, Nat.pow_add, ← Nat.mul_assoc]
          rw [Nat.mul_div_cancel _ (two_pow_pos _)]
        · rw [if_neg h2]
          have h3 : (runit m e p - (e - k)).toNat = (runit m e p - e).toNat + k := by omega
          have := hdiv (runit m e p - e).toNat
          rw [Nat.add_zero] at this
          rw [h3, this]
    have hlost : rlost (m * 2 ^ k + 0) (e - k) (runit m e p) = rlost m e (runit m e p) := by
      unfold rlost
      rw [Nat.add_zero]
      by_cases h1 : runit m e p ≤ e - k
      · rw [decide_eq_true h1, decide_eq_true (show runit m e p ≤ e by omega)]; rfl
      · by_cases h2 : runit m e p ≤ e
        · have h3 : k = (e - runit m e p).toNat + (runit m e p - (e - k)).toNat := by omega
          have h4 : m * 2 ^ k % 2 ^ (runit m e p - (e - k)).toNat = 0 := by
            conv => lhs; lhs; rw [h3, Nat.pow_add, ← Nat.mul_assoc]
            exact Nat.mul_mod_left _ _
          rw [h4, decide_eq_true h2]; simp
        · have h3 : (runit m e p - (e - k)).toNat = (runit m e p - e).toNat + k := by omega
          rw [h3, Nat.pow_add, Nat.mul_mod_mul_right, decide_eq_false h1, decide_eq_false h2]
          have : (m % 2 ^ (runit m e p - e).toNat * 2 ^ k = 0) ↔ (m % 2 ^ (runit m e p - e).toNat = 0) := by
            rw [Nat.mul_eq_zero]; exact ⟨fun h => h.resolve_right (two_pow_ne k), .inl⟩
          simp only [this]
    have hq : rq (m * 2 ^ k + 0) (e - k) false p up = rq m e (false || decide (0 ≠ 0)) p up := by
      unfold rq
      rw [hu, hl, hlost]; simp
    unfold rcut
    rw [hq, hu]
end Go.Proofs.YtndbnfeapdkoaaaDoor
end

section
namespace Go.Proofs.YtndbnfeapdkoaaaDoor
open Go.RowKit

theorem canon_odd {q : Nat} (h : q % 2 = 1) (u : Int) : canon false q u = ⟨false, q, u⟩ := by
  unfold canon
  rw [if_neg (by omega), oddp_odd h, tz_odd h]; simp
theorem canon_odd_mul {q : Nat} (h : q % 2 = 1) (k : Nat) (u : Int) : canon false (q * 2 ^ k) u = ⟨false, q, u + k⟩ := by
  rw [canon_shift, canon_odd h]
theorem rcut_at {m : Nat} {e : Int} {more : Bool} {p : Nat} {up : Bool} {b q : Nat} {u : Int} (hb : bits m = b) (hu : max (e + b - p) (-16384) = u)
    (hq : (if up && (more || rlost m e u) then rlow m e u + 1 else rlow m e u) = q) (hs : (bits q : Int) + u ≤ 16384) : rcut m e more p up = some (canon false q u) := by
  have h1 : runit m e p = u := by unfold runit; rw [hb]; exact hu
  have h2 : rq m e more p up = q := by unfold rq; rw [h1]; exact hq
  unfold rcut
  rw [h1, h2, if_neg (by omega)]
theorem bits_le' {n k : Nat} (h : n < 2 ^ k) : bits n ≤ k := bits_le.2 h
/-- one-limb numbers -/
def dyL (m : Nat) (e : Int) : Dy := ⟨false, m, e⟩
theorem dyL_ok {m : Nat} {e : Int} (h : m % 2 = 1) (hm : m < 4294967296) (h0 : -16384 ≤ e) (h1 : e ≤ 16352) : (dyL m e).ok := by
  have hb : bits m ≤ 32 := bits_le.2 (by omega)
  exact .inr ⟨h, by show bits m ≤ 4096; omega, h0, by show e ≤ 16384; omega, by show (bits m : Int) + e ≤ 16384; omega⟩
theorem third_down : rndS false 1365 (-12) true 8 false = some (dyL 85 (-8)) := by
  have h := rcut_at (m := 1365) (e := -12) (more := true) (p := 8) (up := false) (b := 11) (q := 85 * 2 ^ 1) (u := -9) (bits_unique (by decide) (.inr (by decide))) (by decide) (by decide)
    (by have := bits_le' (n := 85 * 2 ^ 1) (k := 8) (by decide); omega)
  show rcut 1365 (-12) true 8 false = _
  rw [h, canon_odd_mul (by decide)]; rfl
theorem third_up : rndS false 1365 (-12) true 8 true = some (dyL 171 (-9)) := by
  have h := rcut_at (m := 1365) (e := -12) (more := true) (p := 8) (up := true) (b := 11) (q := 171) (u := -9) (bits_unique (by decide) (.inr (by decide))) (by decide) (by decide)
    (by have := bits_le' (n := 171) (k := 8) (by decide); omega)
  show rcut 1365 (-12) true 8 true = _
  rw [h, canon_odd (by decide)]; rfl
theorem root_down : rcut 724 (-9) true 8 false = some (dyL 181 (-7)) := by
  have h := rcut_at (m := 724) (e := -9) (more := true) (p := 8) (up := false) (b := 10) (q := 181) (u := -7) (bits_unique (by decide) (.inr (by decide))) (by decide) (by decide)
    (by have := bits_le' (n := 181) (k := 8) (by decide); omega)
  rw [h, canon_odd (by decide)]; rfl
theorem n257_down : rndS false 257 0 false 8 false = some (dyL 1 8) := by
  have h := rcut_at (m := 257) (e := 0) (more := false) (p := 8) (up := false) (b := 9) (q := 1 * 2 ^ 7) (u := 1) (bits_unique (by decide) (.inr (by decide))) (by decide) (by decide)
    (by have := bits_le' (n := 1 * 2 ^ 7) (k := 8) (by decide); omega)
  show rcut 257 0 false 8 false = _
  rw [h, canon_odd_mul (by decide)]; rfl
theorem n257_up : rndS false 257 0 false 8 true = some (dyL 129 1) := by
  have h := rcut_at (m := 257) (e := 0) (more := false) (p := 8) (up := true) (b := 9) (q := 129) (u := 1) (bits_unique (by decide) (.inr (by decide))) (by decide) (by decide)
    (by have := bits_le' (n := 129) (k := 8) (by decide); omega)
  show rcut 257 0 false 8 true = _
  rw [h, canon_odd (by decide)]; rfl
theorem sum_is {d f g : Dy} (hg : g.ok) (h : d.iv + f.iv = g.iv) : sumD d f = g := by unfold sumD; rw [h]; exact ofI_of_ok hg
theorem dyL_iv (m : Nat) (e : Int) : (dyL m e).iv = ((m * 2 ^ (e + 16384).toNat : Nat) : Int) := rfl
theorem dyL_unit : ∃ P : Nat, ∀ m k : Nat, (dyL m (k : Int)).iv = ((m * 2 ^ k * P : Nat) : Int) := ⟨2 ^ (16384 : Int).toNat, fun m k => by
  rw [dyL_iv, show ((k : Int) + 16384).toNat = k + (16384 : Int).toNat from by omega, Nat.pow_add, Nat.mul_assoc]⟩
theorem n257_below : sumD (dyL 257 0) (dyL 1 8).opp = dyL 1 0 := sum_is (dyL_ok (by decide) (by decide) (by decide) (by decide)) (by
  obtain ⟨P, h⟩ := dyL_unit
  have h1 := h 257 0
  have h2 := h 1 8
  have h3 := h 1 0
  rw [Dy.opp_iv]
  simp only [Int.cast_ofNat_Int] at h1 h2 h3
  rw [h1, h2, h3]
  omega)
theorem n257_above : sumD (dyL 129 1) (dyL 257 0).opp = dyL 1 0 := sum_is (dyL_ok (by decide) (by decide) (by decide) (by decide)) (by
  obtain ⟨P, h⟩ := dyL_unit
  have h1 := h 257 0
  have h2 := h 129 1
  have h3 := h 1 0
  rw [Dy.opp_iv]
  simp only [Int.cast_ofNat_Int] at h1 h2 h3
  rw [h1, h2, h3]
  omega)
end Go.Proofs.YtndbnfeapdkoaaaDoor
end
