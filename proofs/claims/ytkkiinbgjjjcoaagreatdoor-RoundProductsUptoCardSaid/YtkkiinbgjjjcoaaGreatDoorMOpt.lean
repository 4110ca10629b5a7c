/-
  Plain: a rounded number is the greatest one below, or the least one above; no program in sight.
  Plain rounding of signed numbers S 2^(-16384-K) to p bits, no program in sight.
  Walks: dyadic.Top, Bits, Sign, of valid numbers.
-/
import Derived.Test.YtkkiinbgjjjcoaaGreatDoorMCmp
import Derived.Test.YtkkiinbgjjjcoaaGreatDoorMDyB
import Derived.Deep.RegionHeld3
section
namespace Go.Proofs.YtkkiinbgjjjcoaaGreatDoor

/-- the absolute value times 2^16384 -/
def Dy.av (d : Dy) : Nat := d.m * 2 ^ (d.e + 16384).toNat
theorem Dy.iv_av (d : Dy) : d.iv = sg d.neg d.av := rfl
theorem canon_av (neg : Bool) (n : Nat) (u : Int) (h : -16384 ≤ u) : (canon neg n u).av = n * 2 ^ (u + 16384).toNat := by
  unfold canon
  split
  · next h0 => subst h0; unfold Dy.av Dy.zero; rw [Nat.zero_mul, Nat.zero_mul]
  · next h0 =>
    unfold Dy.av
    simp only []
    conv => rhs; lhs; rw [(oddp_spec h0).2]
    rw [Nat.mul_assoc, ← Nat.pow_add]
    congr 2; omega
theorem canon_neg (neg : Bool) (n : Nat) (u : Int) : (canon neg n u).neg = (neg && decide (n ≠ 0)) := by
  unfold canon
  split
  · next h0 => subst h0; simp [Dy.zero]
  · next h0 => simp [h0]

theorem top_le {m b s T p : Nat} (hm : m < 2 ^ b) (hb : b ≤ p) (hp : p ≤ T) (hs : b + s ≤ T) : m * 2 ^ s ≤ (2 ^ p - 1) * 2 ^ (T - p) := by
  have e1 : (2 ^ p - 1) * 2 ^ (T - p) = 2 ^ T - 2 ^ (T - p) := by
    rw [Nat.sub_mul, ← Nat.pow_add, Nat.one_mul]; congr 2; omega
  have e2 : m * 2 ^ s ≤ (2 ^ b - 1) * 2 ^ (T - b) :=
    Nat.mul_le_mul (by omega) (Nat.pow_le_pow_right (by decide) (by omega))
  have e3 : (2 ^ b - 1) * 2 ^ (T - b) = 2 ^ T - 2 ^ (T - b) := by
    rw [Nat.sub_mul, ← Nat.pow_add, Nat.one_mul]; congr 2; omega
  have e4 : 2 ^ (T - p) ≤ 2 ^ (T - b) := Nat.pow_le_pow_right (by decide) (by omega)
  have e5 : 2 ^ (T - b) ≤ 2 ^ T := Nat.pow_le_pow_right (by decide) (by omega)
  omega
theorem top_lt {m b s T : Nat} (hm : m < 2 ^ b) (hs : b + s ≤ T) : m * 2 ^ s < 2 ^ T := by
  calc m * 2 ^ s < 2 ^ b * 2 ^ s := Nat.mul_lt_mul_of_pos_right hm (two_pow_pos s)
    _ = 2 ^ (b + s) := by rw [Nat.pow_add]
    _ ≤ 2 ^ T := Nat.pow_le_pow_right (by decide) hs

/-- what the absolute value of a number of p bits looks like -/
theorem isP_shape {p : Nat} {d : Dy} (h : isP p d) : ∃ b s, d.av = d.m * 2 ^ s ∧ d.m < 2 ^ b ∧ b ≤ p ∧ b + s ≤ 32768 := by
  obtain ⟨h1, h2⟩ := h
  rcases h1 with ⟨h1, _, h3⟩ | ⟨h1, h3, h4, h5, h6⟩
  · exact ⟨0, 0, by unfold Dy.av; rw [h1]; simp, by rw [h1]; decide, by omega, by omega⟩
  · exact ⟨bits d.m, _, rfl, lt_two_pow_bits _, h2, by omega⟩

section
variable {n K p : Nat}
theorem rlow_div (e u : Int) (h : e ≤ u) : rlow n e u = n / 2 ^ (u - e).toNat := by
  unfold rlow
  split
  · next h1 => obtain rfl : e = u := by omega
               simp
  · rfl
theorem rlost_mod (e u : Int) (h : e ≤ u) : rlost n e u = !decide (n % 2 ^ (u - e).toNat = 0) := by
  unfold rlost
  by_cases h1 : u ≤ e
  · obtain rfl : e = u := by omega
    simp [Nat.mod_one]
  · simp [h1]
/-- the unit u of n 2^(-16384-K), as t above the grid: what it hangs on -/
theorem unit_shape (hn : n ≠ 0) (hp : 0 < p) : ∃ t : Nat, runit n (-16384 - K) p = (t : Int) - 16384 ∧ (0 < t → 2 ^ (p - 1) ≤ n / 2 ^ (t + K) ∧ bits n = t + K + p) := by
  refine ⟨(runit n (-16384 - K) p + 16384).toNat, ?_, ?_⟩
  · have := @runit_ge n (-16384 - K) p; omega
  · intro ht
    have hb : bits n = (runit n (-16384 - K) p + 16384).toNat + K + p := by unfold runit at ht ⊢; omega
    refine ⟨?_, hb⟩
    rw [Nat.le_div_iff_mul_le (two_pow_pos _), ← Nat.pow_add]
    refine Nat.le_trans (Nat.pow_le_pow_right (by decide) ?_) (two_pow_le_of_bits hn)
    omega

theorem down_core (hp : 0 < p) {t s m : Nat} (ht : 0 < t → 2 ^ (p - 1) ≤ n / 2 ^ (t + K)) (hm : m < 2 ^ p) (hle : m * 2 ^ s * 2 ^ K ≤ n) : m * 2 ^ s ≤ n / 2 ^ (t + K) * 2 ^ t := by
  by_cases hs : t ≤ s
  · have e : m * 2 ^ s = m * 2 ^ (s - t) * 2 ^ t := by rw [Nat.mul_assoc, ← Nat.pow_add]; congr 2; omega
    rw [e]
    apply Nat.mul_le_mul_right
    rw [Nat.le_div_iff_mul_le (two_pow_pos _), Nat.pow_add, ← Nat.mul_assoc, ← e]
    exact hle
  · have h1 := ht (by omega)
    calc m * 2 ^ s ≤ 2 ^ p * 2 ^ s := Nat.mul_le_mul_right _ (by omega)
      _ = 2 ^ (p + s) := by rw [Nat.pow_add]
      _ ≤ 2 ^ (p - 1 + t) := Nat.pow_le_pow_right (by decide) (by omega)
      _ = 2 ^ (p - 1) * 2 ^ t := by rw [Nat.pow_add]
      _ ≤ _ := Nat.mul_le_mul_right _ h1

theorem ceil_le {a b c : Nat} (hb : 0 < b) (h : a ≤ c * b) : (if a % b = 0 then a / b else a / b + 1) ≤ c := by
  have h1 := Nat.div_add_mod a b
  split
  · next h0 => rw [h0] at h1; exact Nat.le_of_mul_le_mul_right (by rw [Nat.mul_comm] at h1; omega) hb
  · next h0 =>
    have : a / b < c := by
      rw [Nat.div_lt_iff_lt_mul hb]
      rcases Nat.lt_or_eq_of_le h with h2 | h2
      · exact h2
      · exact absurd (by rw [h2]; exact Nat.mul_mod_left _ _) h0
    exact this
theorem le_ceil {a b : Nat} (hb : 0 < b) : a ≤ (if a % b = 0 then a / b else a / b + 1) * b := by
  have h1 := Nat.div_add_mod a b
  have h2 := Nat.mod_lt a hb
  rw [Nat.mul_comm] at h1
  split
  · omega
  · rw [Nat.add_mul]; omega

theorem up_core (hn : n ≠ 0) {t s m : Nat} (ht : 0 < t → bits n = t + K + p) (hm : m < 2 ^ p) (hle : n ≤ m * 2 ^ s * 2 ^ K) : (if n % 2 ^ (t + K) = 0 then n / 2 ^ (t + K) else n / 2 ^ (t + K) + 1) * 2 ^ t ≤ m * 2 ^ s := by
  by_cases hs : t ≤ s
  · have e : m * 2 ^ s = m * 2 ^ (s - t) * 2 ^ t := by rw [Nat.mul_assoc, ← Nat.pow_add]; congr 2; omega
    rw [e]
    apply Nat.mul_le_mul_right
    apply ceil_le (two_pow_pos _)
    rw [Nat.pow_add, ← Nat.mul_assoc, ← e]
    exact hle
  · exfalso
    have h1 := ht (by omega)
    have h2 := two_pow_le_of_bits hn
    have h3 : m * 2 ^ s * 2 ^ K < 2 ^ p * 2 ^ s * 2 ^ K := Nat.mul_lt_mul_of_pos_right (Nat.mul_lt_mul_of_pos_right hm (two_pow_pos s)) (two_pow_pos K)
    rw [← Nat.pow_add, ← Nat.pow_add] at h3
    have h4 : 2 ^ (p + s + K) ≤ 2 ^ (bits n - 1) := Nat.pow_le_pow_right (by decide) (by omega)
    omega

theorem rq_down {t : Nat} (hu : runit n (-16384 - K) p = (t : Int) - 16384) : rq n (-16384 - K) false p false = n / 2 ^ (t + K) := by
  unfold rq
  simp only [Bool.false_and, Bool.false_eq_true, if_false]
  rw [hu, rlow_div _ _ (by omega)]
  congr 2; omega
theorem rq_up {t : Nat} (hu : runit n (-16384 - K) p = (t : Int) - 16384) : rq n (-16384 - K) false p true = if n % 2 ^ (t + K) = 0 then n / 2 ^ (t + K) else n / 2 ^ (t + K) + 1 := by
  unfold rq
  rw [hu, rlow_div _ _ (by omega), rlost_mod _ _ (by omega), show ((t : Int) - 16384 - (-16384 - K)).toNat = t + K from by omega]
  by_cases h : n % 2 ^ (t + K) = 0 <;> simp [h]

theorem rcut_down (hn : n ≠ 0) (hp : 0 < p) (hp2 : p ≤ 4096) : ∃ d, rcut n (-16384 - K) false p false = some d ∧ d.av * 2 ^ K ≤ n ∧ ∀ d', isP p d' → d'.av * 2 ^ K ≤ n → d'.av ≤ d.av := by
  obtain ⟨t, hu, ht⟩ := unit_shape (K := K) (p := p) hn hp
  have hq := rq_down hu
  unfold rcut
  rw [hq, hu]
  have hdm := Nat.div_mul_le_self n (2 ^ (t + K))
  have hav : (canon false (2 ^ p - 1) (16384 - p)).av = (2 ^ p - 1) * 2 ^ (32768 - p) := by
    rw [canon_av _ _ _ (by omega)]; congr 2; omega
  split
  · next hb =>
    refine ⟨_, if_neg (by decide), ?_, ?_⟩
    · rw [hav]
      have h0 : n / 2 ^ (t + K) ≠ 0 := by
        intro h0
        rw [h0] at hb ht
        have h1 := bits_zero
        have := two_pow_pos (p - 1)
        by_cases htt : 0 < t
        · have := (ht htt).1; omega
        · omega
      have h1 := two_pow_le_of_bits h0
      have h2 : (2 ^ p - 1) * 2 ^ (32768 - p) ≤ n / 2 ^ (t + K) * 2 ^ t := by
        calc (2 ^ p - 1) * 2 ^ (32768 - p) ≤ 2 ^ p * 2 ^ (32768 - p) := Nat.mul_le_mul_right _ (Nat.sub_le _ _)
          _ = 2 ^ (p + (32768 - p)) := by rw [Nat.pow_add]
          _ ≤ 2 ^ (bits (n / 2 ^ (t + K)) - 1 + t) := Nat.pow_le_pow_right (by decide) (by omega)
          _ = 2 ^ (bits (n / 2 ^ (t + K)) - 1) * 2 ^ t := by rw [Nat.pow_add]
          _ ≤ _ := Nat.mul_le_mul_right _ h1
      calc (2 ^ p - 1) * 2 ^ (32768 - p) * 2 ^ K ≤ n / 2 ^ (t + K) * 2 ^ t * 2 ^ K := Nat.mul_le_mul_right _ h2
        _ = n / 2 ^ (t + K) * 2 ^ (t + K) := by rw [Nat.mul_assoc, ← Nat.pow_add]
        _ ≤ n := hdm
    · intro d' hd' _
      obtain ⟨b, s, e1, e2, e3, e4⟩ := isP_shape hd'
      rw [hav, e1]
      exact top_le e2 e3 (by omega) e4
  · next hb =>
    refine ⟨_, rfl, ?_, ?_⟩
    · rw [canon_av _ _ _ (by omega), show ((t : Int) - 16384 + 16384).toNat = t from by omega, Nat.mul_assoc, ← Nat.pow_add]
      exact hdm
    · intro d' hd' hle
      obtain ⟨b, s, e1, e2, e3, e4⟩ := isP_shape hd'
      rw [canon_av _ _ _ (by omega), show ((t : Int) - 16384 + 16384).toNat = t from by omega, e1]
      rw [e1] at hle
      exact down_core hp (fun h => (ht h).1) (Nat.lt_of_lt_of_le e2 (Nat.pow_le_pow_right (by decide) e3)) hle

theorem rcut_up (hn : n ≠ 0) (hp : 0 < p) :
    (rcut n (-16384 - K) false p true = none ∧ ∀ d', isP p d' → ¬ n ≤ d'.av * 2 ^ K) ∨
    ∃ d, rcut n (-16384 - K) false p true = some d ∧ n ≤ d.av * 2 ^ K ∧ ∀ d', isP p d' → n ≤ d'.av * 2 ^ K → d.av ≤ d'.av := by
  obtain ⟨t, hu, ht⟩ := unit_shape (K := K) (p := p) hn hp
  have hq := rq_up hu
  unfold rcut
  rw [hq, hu]
  have hce := le_ceil (a := n) (two_pow_pos (t + K))
  have hup : ∀ m s, m < 2 ^ p → n ≤ m * 2 ^ s * 2 ^ K → (if n % 2 ^ (t + K) = 0 then n / 2 ^ (t + K) else n / 2 ^ (t + K) + 1) * 2 ^ t ≤ m * 2 ^ s := fun m s h1 h2 => up_core hn (fun h => (ht h).2) h1 h2
  generalize (if n % 2 ^ (t + K) = 0 then n / 2 ^ (t + K) else n / 2 ^ (t + K) + 1) = q at *
  have h0 : q ≠ 0 := by
    intro h0
    subst h0
    rw [Nat.zero_mul] at hce; omega
  by_cases hb : (bits q : Int) + ((t : Int) - 16384) > 16384
  · refine .inl ⟨by rw [if_pos hb, if_pos rfl], fun d' hd' hle => ?_⟩
    obtain ⟨b, s, e1, e2, e3, e4⟩ := isP_shape hd'
    rw [e1] at hle
    have h1 := hup _ _ (Nat.lt_of_lt_of_le e2 (Nat.pow_le_pow_right (by decide) e3)) hle
    have h3 := two_pow_le_of_bits h0
    obtain ⟨T, hT⟩ : ∃ T : Nat, T = 32768 := ⟨_, rfl⟩
    have h2 : d'.m * 2 ^ s < 2 ^ T := top_lt e2 (by omega)
    have h4 : 2 ^ T ≤ 2 ^ (bits q - 1 + t) := Nat.pow_le_pow_right (by decide) (by omega)
    rw [Nat.pow_add] at h4
    have h5 : 2 ^ (bits q - 1) * 2 ^ t ≤ q * 2 ^ t := Nat.mul_le_mul_right _ h3
    exact absurd (Nat.le_trans h4 (Nat.le_trans h5 h1)) (Nat.not_le.2 h2)
  · refine .inr ⟨_, if_neg hb, ?_, ?_⟩
    · rw [canon_av _ _ _ (by omega), show ((t : Int) - 16384 + 16384).toNat = t from by omega, Nat.mul_assoc, ← Nat.pow_add]
      exact hce
    · intro d' hd' hle
      obtain ⟨b, s, e1, e2, e3, e4⟩ := isP_shape hd'
      rw [canon_av _ _ _ (by omega), show ((t : Int) - 16384 + 16384).toNat = t from by omega, e1]
      rw [e1] at hle
      exact hup _ _ (Nat.lt_of_lt_of_le e2 (Nat.pow_le_pow_right (by decide) e3)) hle
end

end Go.Proofs.YtkkiinbgjjjcoaaGreatDoor
end

section
namespace Go.Proofs.YtkkiinbgjjjcoaaGreatDoor

/-- the opposite -/
def Dy.opp (d : Dy) : Dy := if d.m = 0 then .zero else ⟨!d.neg, d.m, d.e⟩
theorem Dy.opp_iv (d : Dy) : d.opp.iv = -d.iv := by
  unfold Dy.opp
  split
  · next h => rw [Dy.iv_zero, Dy.iv_eq_zero.2 h]; rfl
  · unfold Dy.iv sg; cases d.neg <;> simp
theorem Dy.opp_ok {d : Dy} (h : d.ok) : d.opp.ok := by
  unfold Dy.opp
  split
  · exact Dy.ok_zero
  · next h0 =>
    rcases h with ⟨h1, _⟩ | h1
    · exact absurd h1 h0
    · exact .inr h1
theorem Dy.opp_m (d : Dy) : d.opp.m = d.m := by unfold Dy.opp; split <;> simp_all [Dy.zero]
theorem isP.opp {p : Nat} {d : Dy} (h : isP p d) : isP p d.opp := ⟨Dy.opp_ok h.1, by rw [Dy.opp_m]; exact h.2⟩
theorem isP.zero (p : Nat) : isP p .zero := ⟨Dy.ok_zero, Nat.zero_le _⟩
theorem Dy.opp_opp {d : Dy} (h : d.ok) : d.opp.opp = d := Dy.iv_inj (Dy.opp_ok (Dy.opp_ok h)) h (by rw [Dy.opp_iv, Dy.opp_iv]; omega)
theorem Dy.av_zero {d : Dy} : d.av = 0 ↔ d.m = 0 := by
  unfold Dy.av
  constructor
  · intro h
    rcases Nat.mul_eq_zero.1 h with h | h
    · exact h
    · exact absurd h (two_pow_ne _)
  · intro h; rw [h, Nat.zero_mul]
theorem Dy.iv_pos {d : Dy} (h : d.neg = false) : d.iv = d.av := by rw [Dy.iv_av, h]; rfl
theorem Dy.iv_neg {d : Dy} (h : d.neg = true) : d.iv = -(d.av : Int) := by rw [Dy.iv_av, h]; rfl

/-- S 2^(-16384-K), rounded to p bits -/
def rnd (K : Nat) (S : Int) (p : Nat) (up : Bool) : Option Dy :=
  if S = 0 then some .zero
  else if S < 0 then (rcut S.natAbs (-16384 - K) false p (!up)).map Dy.opp
  else rcut S.natAbs (-16384 - K) false p up

theorem rnd_zero (K p : Nat) (up : Bool) : rnd K 0 p up = some .zero := by unfold rnd; rw [if_pos rfl]
theorem rnd_isP {K p : Nat} {S : Int} {up : Bool} {d : Dy} (hp : 0 < p) (hp2 : p ≤ 4096) (h : rnd K S p up = some d) : isP p d := by
  unfold rnd at h
  split at h
  · cases h; exact .zero p
  · split at h
    · cases hc : rcut S.natAbs (-16384 - K) false p (!up) with
      | none => rw [hc] at h; cases h
      | some x => rw [hc] at h; cases h; exact (rcut_isP hp hp2 hc).1.opp
    · exact (rcut_isP hp hp2 h).1
theorem rnd_opp {K p : Nat} {S : Int} {up : Bool} (hp : 0 < p) (hp2 : p ≤ 4096) : rnd K (-S) p up = (rnd K S p (!up)).map Dy.opp := by
  unfold rnd
  by_cases h0 : S = 0
  · subst h0; simp [Dy.opp, Dy.zero]
  · rw [if_neg (by omega), if_neg h0, Int.natAbs_neg]
    by_cases h1 : S < 0
    · rw [if_neg (by omega), if_pos h1]
      simp only [Bool.not_not]
      cases hc : rcut S.natAbs (-16384 - K) false p up with
      | none => rfl
      | some x => simp only [Option.map_some]; rw [Dy.opp_opp (rcut_isP hp hp2 hc).1.1]
    · rw [if_pos (by omega), if_neg h1]

/-- rounding down: the greatest number of p bits that is at most it -/
theorem rnd_down {K p : Nat} {S : Int} (hp : 0 < p) (hp2 : p ≤ 4096) :
    (rnd K S p false = none ∧ ∀ d', isP p d' → ¬ d'.iv * 2 ^ K ≤ S) ∨
    ∃ d, rnd K S p false = some d ∧ isP p d ∧ d.iv * 2 ^ K ≤ S ∧ ∀ d', isP p d' → d'.iv * 2 ^ K ≤ S → d'.iv ≤ d.iv := by
  have hK : (0 : Int) < 2 ^ K := by exact_mod_cast two_pow_pos K
  have cast (x : Nat) : ((x * 2 ^ K : Nat) : Int) = (x : Int) * 2 ^ K := by push_cast; rfl
  by_cases h0 : S = 0
  · subst h0
    refine .inr ⟨.zero, rnd_zero _ _ _, .zero p, by rw [Dy.iv_zero]; simp, fun d' _ h => ?_⟩
    rw [Dy.iv_zero]
    exact Int.le_of_mul_le_mul_right (by simpa using h) hK
  by_cases h1 : S < 0
  · have e : rnd K S p false = (rcut S.natAbs (-16384 - K) false p true).map Dy.opp := by unfold rnd; rw [if_neg h0, if_pos h1]; rfl
    have conv (d' : Dy) (h : d'.iv * 2 ^ K ≤ S) : d'.neg = true ∧ S.natAbs ≤ d'.av * 2 ^ K := by
      cases hn : d'.neg with
      | false =>
        rw [Dy.iv_pos hn, ← cast] at h; omega
      | true =>
        rw [Dy.iv_neg hn, Int.neg_mul, ← cast] at h
        exact ⟨rfl, by omega⟩
    rcases rcut_up (n := S.natAbs) (K := K) (p := p) (by omega) hp with ⟨hc, hm⟩ | ⟨d, hc, h2, hm⟩
    · exact .inl ⟨by rw [e, hc]; rfl, fun d' hd' h => hm d' hd' (conv d' h).2⟩
    · have hp' := rcut_isP hp hp2 hc
      refine .inr ⟨d.opp, by rw [e, hc]; rfl, hp'.1.opp, ?_, fun d' hd' h => ?_⟩
      · rw [Dy.opp_iv, Dy.iv_pos hp'.2, Int.neg_mul, ← cast]; omega
      · have := hm d' hd' (conv d' h).2
        rw [Dy.opp_iv, Dy.iv_pos hp'.2, Dy.iv_neg (conv d' h).1]; omega
  · have e : rnd K S p false = rcut S.natAbs (-16384 - K) false p false := by unfold rnd; rw [if_neg h0, if_neg h1]
    obtain ⟨d, hc, h2, hm⟩ := rcut_down (n := S.natAbs) (K := K) (p := p) (by omega) hp hp2
    have hp' := rcut_isP hp hp2 hc
    refine .inr ⟨d, by rw [e, hc], hp'.1, ?_, fun d' hd' h => ?_⟩
    · rw [Dy.iv_pos hp'.2, ← cast]; omega
    · rw [Dy.iv_pos hp'.2]
      cases hn : d'.neg with
      | false =>
        rw [Dy.iv_pos hn, ← cast] at h
        have := hm d' hd' (by omega)
        rw [Dy.iv_pos hn]; omega
      | true => rw [Dy.iv_neg hn]; omega
/-- rounding up: the least number of p bits that is at least it -/
theorem rnd_up {K p : Nat} {S : Int} (hp : 0 < p) (hp2 : p ≤ 4096) :
    (rnd K S p true = none ∧ ∀ d', isP p d' → ¬ S ≤ d'.iv * 2 ^ K) ∨
    ∃ d, rnd K S p true = some d ∧ isP p d ∧ S ≤ d.iv * 2 ^ K ∧ ∀ d', isP p d' → S ≤ d'.iv * 2 ^ K → d.iv ≤ d'.iv := by
  have e : rnd K S p true = (rnd K (-S) p false).map Dy.opp := by
    have := rnd_opp (K := K) (S := -S) (up := true) hp hp2
    rwa [Int.neg_neg] at this
  rcases rnd_down (K := K) (S := -S) hp hp2 with ⟨h1, h2⟩ | ⟨d, h1, h2, h3, h4⟩
  · refine .inl ⟨by rw [e, h1]; rfl, fun d' hd' h => h2 d'.opp hd'.opp ?_⟩
    rw [Dy.opp_iv, Int.neg_mul]; omega
  · refine .inr ⟨d.opp, by rw [e, h1]; rfl, h2.opp, ?_, fun d' hd' h => ?_⟩
    · rw [Dy.opp_iv, Int.neg_mul]; omega
    · have := h4 d'.opp hd'.opp (by rw [Dy.opp_iv, Int.neg_mul]; omega)
      rw [Dy.opp_iv] at this ⊢; omega

/-- the form with any exponent -/
def rnde (S : Int) (e : Int) (p : Nat) (up : Bool) : Option Dy :=
  if S = 0 then some .zero
  else if S < 0 then (rcut S.natAbs e false p (!up)).map Dy.opp
  else rcut S.natAbs e false p up
theorem rnde_rnd (K : Nat) (S : Int) (p : Nat) (up : Bool) : rnde S (-16384 - K) p up = rnd K S p up := rfl
theorem rnde_shift (S : Int) (k : Nat) (e : Int) (p : Nat) (up : Bool) : rnde (S * 2 ^ k) (e - k) p up = rnde S e p up := by
  have hk : (0 : Int) < 2 ^ k := by exact_mod_cast two_pow_pos k
  have ha : (S * 2 ^ k).natAbs = S.natAbs * 2 ^ k := by
    rw [Int.natAbs_mul, Int.natAbs_pow]; rfl
  unfold rnde
  by_cases h0 : S = 0
  · subst h0; simp
  · have h0' : S * 2 ^ k ≠ 0 := Int.mul_ne_zero h0 (by omega)
    rw [if_neg h0, if_neg h0', ha, rcut_shift (by omega), rcut_shift (by omega)]
    by_cases h1 : S < 0
    · rw [if_pos h1, if_pos (Int.mul_neg_of_neg_of_pos h1 hk)]
    · rw [if_neg h1, if_neg (by have := Int.mul_pos (show 0 < S by omega) hk; omega)]
/-- any exponent, brought to a grid -/
theorem rnde_grid (S e : Int) (K k : Nat) (h : e = k - 16384 - K) (p : Nat) (up : Bool) : rnde S e p up = rnd K (S * 2 ^ k) p up := by
  rw [← rnde_rnd, show (-16384 - (K : Int)) = e - k from by omega, rnde_shift]

end Go.Proofs.YtkkiinbgjjjcoaaGreatDoor
end

section
namespace Go.Proofs.YtkkiinbgjjjcoaaGreatDoor
open Go.RowKit

/-- a valid dyadic number d, its limbs at a, of capacity c -/
def DyAt (w : World) (d : Dy) (a : Option Addr) (c : Nat) : Prop := d.ok ∧ Rd w a (limbs d.m) ∧ (limbs d.m).length ≤ c ∧ c ≤ maxLen
theorem DyAt.kp {w w' : World} {d : Dy} {a : Option Addr} {c : Nat} (h : DyAt w d a c) (k : Kp w w') : DyAt w' d a c := ⟨h.1, h.2.1.kp k, h.2.2⟩
theorem ok_e {d : Dy} (h : d.ok) : -16384 ≤ d.e ∧ d.e ≤ 16384 := by
  rcases h with ⟨_, _, h⟩ | ⟨_, _, h, h', _⟩ <;> omega
theorem ok_I64 {d : Dy} (h : d.ok) : I64 d.e := by have := ok_e h; exact ⟨by omega, by omega⟩

theorem Valid_ok (d : Dy) (a : Option Addr) (c : Nat) (w : World) (h : DyAt w d a c) :
    Calls Tryz.prog 58 #[.agg #[.bool d.neg, .slice a (limbs d.m).length c, .int .i64 d.e]] w fun e w' => e = .returned (.bool true) ∧ Kp w w' := by
  have := Valid_any d.neg a (limbs d.m) c d.e w h.2.1 h.2.2.1 h.2.2.2 (by have := ok_len h.1; omega) (ok_I64 h.1)
  rwa [ok_vld h.1] at this

theorem DyAt.drew {w : World} {d : Dy} {a : Option Addr} {c : Nat} (h : DyAt w d a c) : DyAt w.drew d a c := h.kp (Kp.refl w).drew
theorem size_ok (d : Dy) (a : Option Addr) (c : Nat) (w : World) (h : DyAt w d a c) :
    Calls Tryz.prog 80 #[.slice a (limbs d.m).length c] w fun e w' => e = .returned (.int .i64 (bits d.m)) ∧ w = w' := by
  have hs := size_any a (limbs d.m) c w h.2.1 h.2.2.1 h.2.2.2 (by have := ok_len h.1; omega)
  rwa [val_limbs] at hs

/-- the top -/
def topI (d : Dy) : Int := if d.m = 0 then 0 else (bits d.m : Int) + d.e
theorem len_ne {n : Nat} (h : n ≠ 0) : (((limbs n).length : Int) == 0) = false :=
  beq_eq_false_iff_ne.2 (by
    have : limbs n ≠ [] := by rw [Ne, limbs_eq_nil]; exact h
    have := List.length_pos_iff.2 this
    omega)

set_option maxHeartbeats 2000000 in
theorem Top_ok (d : Dy) (a : Option Addr) (c : Nat) (w : World) (h : DyAt w d a c) :
    Calls Tryz.prog 45 #[.agg #[.bool d.neg, .slice a (limbs d.m).length c, .int .i64 d.e]] w fun e w' => e = .returned (.int .i64 (topI d)) ∧ Kp w w' := by
  have hb := bits_val_le (limbs_lt32 d.m)
  rw [val_limbs] at hb
  have hl := ok_len h.1
  have he := ok_e h.1
  by_cases h0 : d.m = 0
  · have H := Lib.hid (show topI d = 0 by unfold topI; rw [if_pos h0])
    have H2 := Lib.hid (Valid_ok d a c _ (h.kp ((Kp.refl w).alloc (.cells #[.bool d.neg, .slice a (limbs d.m).length c, .int .i64 d.e] 24))))
    have hz : (limbs d.m).length = 0 := by rw [h0, limbs_zero]; rfl
    clear h0
    rw [hz] at H2 ⊢
    clear hz hl hb
    go_enter Tryz.func45, Tryz.ntmps45
    go_wp2_with fail
    refine H2.out.mono ?_
    rintro e w1 ⟨rfl, hk⟩
    obtain ⟨c0, c1, c2, _⟩ := (Box3.new w (.bool d.neg) (.slice a 0 c) (.int .i64 d.e) 24).kp hk
    go_wp2_with fail
    go_ret
    exact ⟨ret_int H.out.symm, ((Kp.refl w).alloc _).trans hk⟩
  · have H := Lib.hid (show topI d = (bits d.m : Int) + d.e by unfold topI; rw [if_neg h0])
    have hz := len_ne h0
    clear h0
    go_enter Tryz.func45, Tryz.ntmps45
    go_wp2_with fail
    refine (Valid_ok d a c _ (h.kp ((Kp.refl w).alloc _))).mono ?_
    rintro e w1 ⟨rfl, hk⟩
    obtain ⟨c0, c1, c2, _⟩ := (Box3.new w (.bool d.neg) (.slice a (limbs d.m).length c) (.int .i64 d.e) 24).kp hk
    have hk2 := ((Kp.refl w).alloc _).trans hk
    have hd := (h.kp hk2).drew
    go_wp2_with fail
    go_region_held3 (fun w' => w'.cell? ⟨w.heap.size, 1, none⟩ = some (.slice a (limbs d.m).length c) ∧ w'.cell? ⟨w.heap.size, 2, none⟩ = some (.int .i64 d.e)) (go_keep)
      (first | (go_at_call 80; refine (size_ok d a c _ hd).mono ?_; rintro e w2 ⟨rfl, rfl⟩))
    go_wp2_with fail
    go_ret
    exact ⟨ret_int ((IntWalk.i64_in _ (by omega)).trans H.out.symm), hk2.drew⟩
end Go.Proofs.YtkkiinbgjjjcoaaGreatDoor
end
