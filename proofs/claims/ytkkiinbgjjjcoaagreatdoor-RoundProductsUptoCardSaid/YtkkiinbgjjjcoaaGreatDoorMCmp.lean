/-
  Walks: natural.Bits, natural.Cmp.
  Plain rounding of numbers m 2^e to p bits, no program in sight.
  Walks: natural.shl, natural.shr.
-/
import Derived.Test.YtkkiinbgjjjcoaaGreatDoorMBase
import Derived.Test.YtkkiinbgjjjcoaaGreatDoorMMul
import Derived.Test.YtkkiinbgjjjcoaaGreatDoorMLong
section
namespace Go.Proofs.YtkkiinbgjjjcoaaGreatDoor
open Go.RowKit

theorem limbs_snoc {n : Nat} (h : n ≠ 0) : ∃ us x, limbs n = us ++ [x] ∧ x ≠ 0 ∧ x < 4294967296 ∧ Lt32 us ∧ bits n = 32 * us.length + bits x ∧ nth (limbs n) us.length = x := by
  have h1 : limbs n ≠ [] := by rw [Ne, limbs_eq_nil]; exact h
  obtain ⟨us, x, e⟩ : ∃ us x, limbs n = us ++ [x] := ⟨_, _, (List.dropLast_concat_getLast h1).symm⟩
  have h2 := limbs_top n
  have h3 := limbs_lt32 n
  rw [e] at h2 h3
  have hx : x ≠ 0 := by intro h0; subst h0; unfold Top at h2; simp at h2
  have h4 : Lt32 us := fun y hy => h3 y (List.mem_append_left _ hy)
  refine ⟨us, x, e, hx, h3 x (by simp), h4, ?_, ?_⟩
  · rw [← bits_val_snoc h4 hx, ← e, val_limbs]
  · rw [e, nth_append_right (Nat.le_refl _), Nat.sub_self]; rfl

set_option maxHeartbeats 400000 in
theorem bits_any (a : Option Addr) (xs : List Nat) (c : Nat) (w : World) (h : Rd w a xs) (hc : xs.length ≤ c) (hm : c ≤ maxLen) (hl : xs.length ≤ 1100000) :
    Calls Tryz.prog 54 #[.slice a xs.length c] w fun e w' => e = .returned (.int .i64 (bits (val xs))) ∧ w = w' := by
  have H1 := Lib.hid (trim_any a xs c w h hc hm)
  have hll := limbs_len_le h.lt32
  have hr := h.limbs
  by_cases h0 : val xs = 0
  · have hn : (limbs (val xs)).length = 0 := by rw [h0, limbs_zero]; rfl
    have Hz := Lib.hid h0
    clear h0
    rw [hn] at H1
    clear hn
    go_enter Tryz.func54, Tryz.ntmps54
    go_wp2_with fail
    refine H1.out.mono ?_
    rintro e w2 ⟨rfl, rfl⟩
    go_wp2_with fail
    go_ret
    exact ⟨ret_int (by rw [Hz.out]; rfl), rfl⟩
  · obtain ⟨us, x, e, hx0, hx, hus, hb, hnth⟩ := limbs_snoc h0
    obtain ⟨b, o, rfl, hcell⟩ := hr.some (i := us.length) (by rw [e]; simp)
    have hk := hcell us.length (by rw [e]; simp)
    have hlen : (limbs (val xs)).length = us.length + 1 := by rw [e]; simp
    rw [hlen] at H1 hll
    rw [hnth] at hk
    have Hb := Lib.hid hb
    have hbx : bits x ≤ 32 := bits_le.2 hx
    clear hb hcell hlen hnth e hr h h0
    go_enter Tryz.func54, Tryz.ntmps54
    go_wp2_with fail
    refine H1.out.mono ?_
    rintro e w2 ⟨rfl, rfl⟩
    go_wp2_with fail
    refine (len32_any x _ hx).mono ?_
    rintro e w2 ⟨rfl, rfl⟩
    go_wp2_with fail
    go_ret
    exact ⟨ret_int (by rw [Hb.out]; omega), rfl⟩

/-- the comparison of two numbers -/
def cmpN (m n : Nat) : Int := if m < n then -1 else if m = n then 0 else 1
theorem cmpN_lt {m n : Nat} (h : m < n) : cmpN m n = -1 := by unfold cmpN; rw [if_pos h]
theorem cmpN_gt {m n : Nat} (h : n < m) : cmpN m n = 1 := by unfold cmpN; rw [if_neg (by omega), if_neg (by omega)]
theorem cmpN_eq {m n : Nat} (h : m = n) : cmpN m n = 0 := by unfold cmpN; rw [if_neg (by omega), if_pos h]
theorem limbs_length_mono {m n : Nat} (h : m ≤ n) : (limbs m).length ≤ (limbs n).length :=
  limbs_length_le.2 (Nat.lt_of_le_of_lt h (by have := val_lt (limbs_lt32 n); rwa [val_limbs] at this))
theorem lt_of_limbs_length {m n : Nat} (h : (limbs m).length < (limbs n).length) : m < n := by
  apply Classical.byContradiction; intro hn
  have := limbs_length_mono (show n ≤ m by omega); omega
theorem val_lt_of_top {us vs : List Nat} {k : Nat} (hl : us.length = vs.length) (hk : k < us.length) (hu : Lt32 us) (hd : us.drop (k + 1) = vs.drop (k + 1)) (h : nth us k < nth vs k) : val us < val vs := by
  have e1 := val_take_drop us k (by omega)
  have e2 := val_take_drop vs k (by omega)
  rw [drop_eq_nth hk, val_cons] at e1
  rw [drop_eq_nth (by omega), val_cons, ← hd] at e2
  have b1 := val_lt (hu.take k)
  rw [List.length_take, Nat.min_eq_left (by omega)] at b1
  generalize 4294967296 ^ k = P at *
  generalize val (us.drop (k + 1)) = D at *
  have e3 : P * (nth us k + 1 + 4294967296 * D) ≤ P * (nth vs k + 4294967296 * D) := Nat.mul_le_mul_left _ (by omega)
  have e4 : P * (nth us k + 1 + 4294967296 * D) = P * (nth us k + 4294967296 * D) + P := by rw [show nth us k + 1 + 4294967296 * D = nth us k + 4294967296 * D + 1 from by omega, Nat.mul_add, Nat.mul_one]
  omega

set_option maxHeartbeats 1000000 in
theorem cmp_any (a b : Option Addr) (xs ys : List Nat) (c d : Nat) (w : World) (hx : Rd w a xs) (hy : Rd w b ys) (hxc : xs.length ≤ c) (hyc : ys.length ≤ d) (hc : c ≤ maxLen) (hd : d ≤ maxLen) :
    Calls Tryz.prog 57 #[.slice a xs.length c, .slice b ys.length d] w fun e w' => e = .returned (.int .i64 (cmpN (val xs) (val ys))) ∧ Kp w w' := by
  have H1 := Lib.hid (trim_any a xs c w hx hxc hc)
  have H2 := Lib.hid (trim_any b ys d w hy hyc hd)
  have h1 := hx.limbs
  have h2 := hy.limbs
  have hl1 := limbs_len_le hx.lt32
  have hl2 := limbs_len_le hy.lt32
  have Hv1 := Lib.hid (val_limbs (val xs))
  have Hv2 := Lib.hid (val_limbs (val ys))
  have Hlt := Lib.hid (@lt_of_limbs_length (val xs) (val ys))
  have Hgt := Lib.hid (@lt_of_limbs_length (val ys) (val xs))
  unfold maxLen at hc hd
  go_enter Tryz.func57, Tryz.ntmps57
  go_wp2_with fail
  refine H1.out.mono ?_
  rintro e w2 ⟨rfl, rfl⟩
  go_wp2_with fail
  refine H2.out.mono ?_
  rintro e w2 ⟨rfl, rfl⟩
  clear H1 H2 hx hy
  generalize limbs (val xs) = us at *
  generalize limbs (val ys) = vs at *
  rcases Nat.lt_trichotomy us.length vs.length with hlen | hlen | hlen
  · have hne : ((us.length : Int) != vs.length) = true := by simp; omega
    go_wp2_with fail
    go_ret
    exact ⟨ret_int (cmpN_lt (Hlt.out hlen)).symm, .refl _⟩
  · have hne : ((us.length : Int) != vs.length) = false := by simp; omega
    have Hlen := Lib.hid hlen
    have hle1 : us.length ≤ vs.length := by omega
    have hle2 : vs.length ≤ us.length := by omega
    clear hlen
    go_wp2_with fail
    go_loopw [5] (fun ix wr => ∃ k : Nat, k ≤ us.length ∧ ix = .int .i64 ((k : Int) - 1) ∧ us.drop k = vs.drop k ∧ Kp w wr) (fun ix _ => (intOf ix + 1).toNat)
    case atStart => exact ⟨us.length, Nat.le_refl _, rfl, by rw [List.drop_of_length_le (Nat.le_refl _), List.drop_of_length_le (by omega)], .refl _⟩
    case round =>
      obtain ⟨k, hk, rfl, hdrop, hkp⟩ := hrel
      have Hdrop := Lib.hid hdrop
      clear hdrop
      rcases k with _ | j
      · rw [show (((0 : Nat) : Int) - 1) = -1 from rfl]
        go_wp2_with fail
        go_ret
        have : us = vs := by have := Hdrop.out; rwa [List.drop_zero, List.drop_zero] at this
        exact ⟨ret_int (cmpN_eq (by rw [← Hv1.out, ← Hv2.out, this])).symm, hkp⟩
      · rw [show (((j + 1 : Nat) : Int) - 1) = (j : Int) from by omega]
        obtain ⟨b1, o1, rfl, hcx⟩ := (h1.kp hkp).some (i := j) (by omega)
        have hx1 := hcx j (by omega)
        obtain ⟨b2, o2, rfl, hcy⟩ := (h2.kp hkp).some (i := j) (by omega)
        have hy1 := hcy j (by omega)
        clear hcx hcy
        have bx := h1.lt32.nth j
        have by' := h2.lt32.nth j
        rcases Nat.lt_trichotomy (nth us j) (nth vs j) with hd1 | hd1 | hd1
        · have Hr := Lib.hid (val_lt_of_top Hlen.out (by omega) h1.lt32 Hdrop.out hd1)
          go_wp2_with fail
          go_quiet (fail)
          go_wp2_with fail
          go_ret
          exact ⟨ret_int (cmpN_lt (by have := Hr.out; rwa [Hv1.out, Hv2.out] at this)).symm, by first | exact hkp.drewN _ | exact (hkp.drewN _).drewN _⟩
        · have hd2 : ¬ nth us j < nth vs j := by omega
          have hd3 : ¬ nth vs j < nth us j := by omega
          have Hd1 := Lib.hid hd1
          clear hd1
          go_wp2_with fail
          go_quiet (fail)
          go_wp2_with fail
          go_quiet (fail)
          go_wp2_with fail
          go_roundw
          case rel =>
            refine ⟨j, by omega, rfl, ?_, hkp.drewN _⟩
            rw [drop_eq_nth (show j < us.length by omega), drop_eq_nth (show j < vs.length by omega), Hdrop.out, Hd1.out]
          case measure => simp [intOf]
        · have hd2 : ¬ nth us j < nth vs j := by omega
          have Hr := Lib.hid (val_lt_of_top (us := vs) (vs := us) (k := j) Hlen.out.symm (by omega) h2.lt32 Hdrop.out.symm hd1)
          go_wp2_with fail
          go_quiet (fail)
          go_wp2_with fail
          go_quiet (fail)
          go_wp2_with fail
          go_ret
          exact ⟨ret_int (cmpN_gt (by have := Hr.out; rwa [Hv1.out, Hv2.out] at this)).symm, by first | exact hkp.drewN _ | exact (hkp.drewN _).drewN _⟩
  · have hne : ((us.length : Int) != vs.length) = true := by simp; omega
    go_wp2_with fail
    go_ret
    exact ⟨ret_int (cmpN_gt (Hgt.out hlen)).symm, .refl _⟩
end Go.Proofs.YtkkiinbgjjjcoaaGreatDoor
end

section
namespace Go.Proofs.YtkkiinbgjjjcoaaGreatDoor

theorem two_pow_pos (n : Nat) : 0 < 2 ^ n := Nat.pow_pos (by decide)
theorem two_pow_ne (n : Nat) : 2 ^ n ≠ 0 := Nat.ne_of_gt (two_pow_pos n)

/-- the exponent of the last bit that is kept -/
def runit (m : Nat) (e : Int) (p : Nat) : Int := max (e + bits m - p) (-16384)
/-- m 2^e on the unit u, rounded down -/
def rlow (m : Nat) (e u : Int) : Nat := if u ≤ e then m * 2 ^ (e - u).toNat else m / 2 ^ (u - e).toNat
/-- is something lost by that? -/
def rlost (m : Nat) (e u : Int) : Bool := !decide (u ≤ e) && !decide (m % 2 ^ (u - e).toNat = 0)
/-- the mantissa -/
def rq (m : Nat) (e : Int) (more : Bool) (p : Nat) (up : Bool) : Nat :=
  if up && (more || rlost m e (runit m e p)) then rlow m e (runit m e p) + 1 else rlow m e (runit m e p)
/-- a number m 2^e (with more: one between this and (m + 1) 2^e) rounded to p bits; none: too big -/
def rcut (m : Nat) (e : Int) (more : Bool) (p : Nat) (up : Bool) : Option Dy :=
  if (bits (rq m e more p up) : Int) + runit m e p > 16384 then
    (if up then none else some (canon false (2 ^ p - 1) (16384 - p)))
  else some (canon false (rq m e more p up) (runit m e p))

theorem runit_shift {m : Nat} (h : m ≠ 0) (k : Nat) (e : Int) (p : Nat) : runit (m * 2 ^ k) (e - k) p = runit m e p := by
  unfold runit; rw [bits_mul_pow h]; congr 1; omega
theorem rlow_shift (m k : Nat) (e u : Int) : rlow (m * 2 ^ k) (e - k) u = rlow m e u := by
  unfold rlow
  by_cases h1 : u ≤ e - k
  · rw [if_pos h1, if_pos (by omega), Nat.mul_assoc, ← Nat.pow_add]; congr 2; omega
  · rw [if_neg h1]
    by_cases h2 : u ≤ e
    · rw [if_pos h2]
      have : k = (u - (e - k)).toNat + (e - u).toNat := by omega
      conv => lhs; lhs; rhs; rw [this, Nat.pow_add, Nat.mul_comm (2 ^ _)]
      rw [← Nat.mul_assoc, Nat.mul_div_cancel _ (two_pow_pos _)]
    · rw [if_neg h2, show (u - (e - k)).toNat = (u - e).toNat + k from by omega, Nat.pow_add, Nat.mul_div_mul_right _ _ (two_pow_pos k)]
theorem rlost_shift (m k : Nat) (e u : Int) : rlost (m * 2 ^ k) (e - k) u = rlost m e u := by
  unfold rlost
  by_cases h1 : u ≤ e - k
  · simp [h1, show u ≤ e from by omega]
  · by_cases h2 : u ≤ e
    · have : k = (u - (e - k)).toNat + (e - u).toNat := by omega
      have h3 : m * 2 ^ k % 2 ^ (u - (e - k)).toNat = 0 := by
        conv => lhs; lhs; rhs; rw [this, Nat.pow_add, Nat.mul_comm (2 ^ _)]
        rw [← Nat.mul_assoc, Nat.mul_mod_left]
      simp [h2, h3]
    · rw [show (u - (e - k)).toNat = (u - e).toNat + k from by omega, Nat.pow_add, Nat.mul_mod_mul_right]
      have : (m % 2 ^ (u - e).toNat * 2 ^ k = 0) ↔ (m % 2 ^ (u - e).toNat = 0) := by
        constructor
        · intro h; rcases Nat.mul_eq_zero.1 h with h | h
          · exact h
          · exact absurd h (two_pow_ne k)
        · intro h; rw [h, Nat.zero_mul]
      simp [h1, h2, this]
theorem rcut_shift {m : Nat} (h : m ≠ 0) (k : Nat) (e : Int) (more : Bool) (p : Nat) (up : Bool) : rcut (m * 2 ^ k) (e - k) more p up = rcut m e more p up := by
  unfold rcut rq; rw [runit_shift h, rlow_shift, rlost_shift]
theorem bits_div {n j : Nat} (h : n / 2 ^ j ≠ 0) : bits n = bits (n / 2 ^ j) + j := by
  apply bits_unique
  · have h1 := lt_two_pow_bits (n / 2 ^ j)
    rw [Nat.pow_add]
    exact (Nat.div_lt_iff_lt_mul (two_pow_pos j)).1 h1
  · right
    have h1 := two_pow_le_of_bits h
    have h2 := bits_pos h
    rw [show bits (n / 2 ^ j) + j - 1 = (bits (n / 2 ^ j) - 1) + j from by omega, Nat.pow_add]
    exact (Nat.le_div_iff_mul_le (two_pow_pos j)).1 h1
theorem mod_pow_add (n i j : Nat) : (n % 2 ^ (i + j) = 0) ↔ (n % 2 ^ j = 0 ∧ n / 2 ^ j % 2 ^ i = 0) := by
  have e : n % 2 ^ (i + j) = n % 2 ^ j + 2 ^ j * (n / 2 ^ j % 2 ^ i) := by
    rw [Nat.add_comm i j, Nat.pow_add, Nat.mod_mul]
  have := two_pow_pos j
  constructor
  · intro h
    rw [h] at e
    have h2 : 2 ^ j * (n / 2 ^ j % 2 ^ i) = 0 := by omega
    rcases Nat.mul_eq_zero.1 h2 with h3 | h3
    · exact absurd h3 (two_pow_ne j)
    · exact ⟨by omega, h3⟩
  · rintro ⟨h1, h2⟩; rw [e, h1, h2]; simp
/-- what lies below the bits that are kept counts only as a mark that something is there -/
theorem rcut_sticky {n j : Nat} (h0 : n / 2 ^ j ≠ 0) (e : Int) (p : Nat) (up : Bool) (h : n % 2 ^ j ≠ 0 → p < bits (n / 2 ^ j)) :
    rcut (n / 2 ^ j) (e + j) (!decide (n % 2 ^ j = 0)) p up = rcut n e false p up := by
  by_cases hz : n % 2 ^ j = 0
  · have hn : n = n / 2 ^ j * 2 ^ j := by have := Nat.div_add_mod n (2 ^ j); rw [hz, Nat.mul_comm] at this; omega
    have := rcut_shift h0 j (e + j) false p up
    rw [← hn, show e + (j : Int) - j = e from by omega] at this
    rw [this, hz]; rfl
  · have hp := h hz
    have hu : runit (n / 2 ^ j) (e + j) p = runit n e p := by
      unfold runit; rw [bits_div h0]; congr 1; omega
    have hgt : e + j < runit n e p := by rw [← hu]; unfold runit; omega
    have hl : rlow (n / 2 ^ j) (e + j) (runit n e p) = rlow n e (runit n e p) := by
      unfold rlow
      rw [if_neg (by omega), if_neg (by omega), Nat.div_div_eq_div_mul, ← Nat.pow_add]
      congr 2; omega
    have ho : rlost n e (runit n e p) = true := by
      unfold rlost
      have h3 : ¬ n % 2 ^ (runit n e p - e).toNat = 0 := by
        rw [show (runit n e p - e).toNat = ((runit n e p - e).toNat - j) + j from by omega, mod_pow_add]
        exact fun h => hz h.1
      simp [h3]; omega
    unfold rcut rq
    rw [hu, hl, ho]
    simp [hz]

/-- the mantissa has at most p bits, or is 2^p -/
theorem rlow_lt {m : Nat} {e : Int} {p : Nat} : rlow m e (runit m e p) < 2 ^ p := by
  by_cases h0 : m = 0
  · subst h0; unfold rlow; split <;> simp [two_pow_pos]
  have hb := lt_two_pow_bits m
  unfold rlow
  split
  · next h =>
    unfold runit at h ⊢
    calc m * 2 ^ (e - max (e + ↑(bits m) - ↑p) (-16384)).toNat < 2 ^ bits m * 2 ^ (e - max (e + ↑(bits m) - ↑p) (-16384)).toNat := Nat.mul_lt_mul_of_pos_right hb (two_pow_pos _)
      _ = 2 ^ (bits m + (e - max (e + ↑(bits m) - ↑p) (-16384)).toNat) := by rw [Nat.pow_add]
      _ ≤ 2 ^ p := Nat.pow_le_pow_right (by decide) (by omega)
  · next h =>
    unfold runit at h ⊢
    rw [Nat.div_lt_iff_lt_mul (two_pow_pos _), ← Nat.pow_add]
    exact Nat.lt_of_lt_of_le hb (Nat.pow_le_pow_right (by decide) (by omega))
theorem rq_le {m : Nat} {e : Int} {more : Bool} {p : Nat} {up : Bool} : rq m e more p up ≤ 2 ^ p := by
  have := @rlow_lt m e p
  unfold rq; split <;> omega
theorem bits_two_pow (p : Nat) : bits (2 ^ p) = p + 1 := by
  apply bits_unique
  · exact Nat.pow_lt_pow_right (by decide) (by omega)
  · right; simp
theorem bits_two_pow_sub_one {p : Nat} (h : 0 < p) : bits (2 ^ p - 1) = p := by
  have := two_pow_pos p
  apply bits_unique
  · omega
  · right
    have e : 2 ^ p = 2 ^ (p - 1) * 2 := by rw [← Nat.pow_succ]; congr 1; omega
    have := two_pow_pos (p - 1)
    omega
theorem bits_oddp_le {n p : Nat} (h : n ≤ 2 ^ p) (hp : 0 < p) : bits (oddp n) ≤ p := by
  by_cases h0 : n = 0
  · subst h0; unfold oddp; simp [bits_zero]
  by_cases h1 : n = 2 ^ p
  · subst h1
    have := @oddp_mul_pow 1 (by decide) p
    rw [Nat.one_mul] at this
    rw [this]; show bits 1 ≤ p
    rw [bits_le]; exact Nat.lt_of_lt_of_le (by decide : 1 < 2 ^ 1) (Nat.pow_le_pow_right (by decide) hp)
  · have := bits_oddp h0
    have h2 : bits n ≤ p := bits_le.2 (by omega)
    omega

/-- a number of p bits -/
def isP (p : Nat) (d : Dy) : Prop := d.ok ∧ bits d.m ≤ p

theorem canon_isP {n : Nat} {u : Int} {p : Nat} (hp : 0 < p) (hp2 : p ≤ 4096) (h1 : n ≤ 2 ^ p) (h2 : -16384 ≤ u) (h3 : (bits n : Int) + u ≤ 16384) : isP p (canon false n u) := by
  by_cases h0 : n = 0
  · subst h0; exact ⟨Dy.ok_zero, by rw [canon_zero]; exact Nat.zero_le _⟩
  have hb := bits_oddp_le h1 hp
  have hs := bits_oddp h0
  have hm : (canon false n u).m = oddp n := by unfold canon; rw [if_neg h0]
  have he : (canon false n u).e = u + tz n := by unfold canon; rw [if_neg h0]
  refine ⟨(canon_ok_iff _ _ _).2 (.inr ?_), by rw [hm]; exact hb⟩
  have := bits_pos (oddp_ne_zero h0)
  rw [hm, he]; omega
theorem runit_ge {m : Nat} {e : Int} {p : Nat} : -16384 ≤ runit m e p := by unfold runit; omega
theorem rcut_isP {m : Nat} {e : Int} {more : Bool} {p : Nat} {up : Bool} {d : Dy} (hp : 0 < p) (hp2 : p ≤ 4096) (h : rcut m e more p up = some d) : isP p d ∧ d.neg = false := by
  unfold rcut at h
  have hneg : ∀ n u, (canon false n u).neg = false := fun n u => by unfold canon; split <;> rfl
  split at h
  · next hb =>
    split at h
    · cases h
    · cases h
      refine ⟨canon_isP hp hp2 (Nat.sub_le _ _) (by omega) ?_, hneg _ _⟩
      rw [bits_two_pow_sub_one hp]; omega
  · next hb =>
    cases h
    exact ⟨canon_isP hp hp2 rq_le runit_ge (by omega), hneg _ _⟩

end Go.Proofs.YtkkiinbgjjjcoaaGreatDoor
end

section
namespace Go.Proofs.YtkkiinbgjjjcoaaGreatDoor
open Go.RowKit

theorem shl_or {x r c : Nat} (hx : x < 4294967296) (hr : r < 32) (hc : c < 2 ^ r) :
    ∃ s : Nat, Go.bits BinOp.or IntKind.u64 (IntKind.u64.wrap ((x : Int) * 2 ^ r)) (c : Int) = (s : Int) ∧ s = x * 2 ^ r + c ∧ s / 4294967296 < 2 ^ r ∧ s < 9223372036854775808 := by
  have h1 : 2 ^ r ≤ 2 ^ 31 := Nat.pow_le_pow_right (by decide) (by omega)
  have h2 : x * 2 ^ r ≤ 4294967295 * 2 ^ r := Nat.mul_le_mul_right _ (by omega)
  have h3 : x * 2 ^ r + c < 4294967296 * 2 ^ r := by omega
  have e1 : IntKind.u64.wrap ((x : Int) * 2 ^ r) = ((x * 2 ^ r : Nat) : Int) := by
    rw [show (x : Int) * 2 ^ r = ((x * 2 ^ r : Nat) : Int) from by push_cast; rfl, IntKind.wrap_u64]
    omega
  refine ⟨x * 2 ^ r + c, ?_, rfl, ?_, by omega⟩
  · rw [e1, u64_or_nat _ _ (by omega) (by omega), nat_join r _ _ (Nat.mul_mod_left _ _) hc]
  · exact (Nat.div_lt_iff_lt_mul (by decide)).2 (by rw [Nat.mul_comm (2 ^ r)]; exact h3)
theorem shl_step {zs : List Nat} {q k cr s V x r : Nat} (hl : zs.length = q + k) (h : val zs + 4294967296 ^ (q + k) * cr = 4294967296 ^ q * (2 ^ r * V)) (hs : s = x * 2 ^ r + cr) :
    val (zs ++ [s % 4294967296]) + 4294967296 ^ (q + (k + 1)) * (s / 4294967296) = 4294967296 ^ q * (2 ^ r * (V + 4294967296 ^ k * x)) := by
  rw [val_snoc, hl, show q + (k + 1) = q + k + 1 from by omega, Nat.pow_succ, Nat.mul_assoc]
  have e : 4294967296 ^ (q + k) * (s % 4294967296) + 4294967296 ^ (q + k) * (4294967296 * (s / 4294967296)) = 4294967296 ^ (q + k) * s := by
    rw [← Nat.mul_add]; congr 1; omega
  have e2 : 4294967296 ^ (q + k) * s = 4294967296 ^ q * (2 ^ r * (4294967296 ^ k * x)) + 4294967296 ^ (q + k) * cr := by
    rw [hs, Nat.mul_add, Nat.pow_add]
    congr 1
    rw [Nat.mul_assoc]; congr 1
    rw [Nat.mul_comm x, ← Nat.mul_assoc, ← Nat.mul_assoc, Nat.mul_comm (2 ^ r)]
  rw [Nat.mul_add (2 ^ r), Nat.mul_add (4294967296 ^ q)]
  omega
theorem pow_split (n : Nat) : 4294967296 ^ (n / 32) * 2 ^ (n % 32) = 2 ^ n := by
  rw [pow32, ← Nat.pow_add]; congr 1; omega

/-- a new slice of some capacity that shows limbs of the number v, n of them -/
def MadeC (w : World) (v n : Nat) (e : Ending) (w' : World) : Prop :=
  ∃ a c zs, e = .returned (.slice a n c) ∧ zs.length = n ∧ n ≤ c ∧ c ≤ maxLen ∧ val zs = v ∧ Rd w' a zs ∧ Kp w w'
theorem MadeV.c {w : World} {v n : Nat} {e : Ending} {w' : World} (h : MadeV w v n e w') (hn : n ≤ maxLen) : MadeC w v n e w' := by
  obtain ⟨g, zs, h1, h2, h3, h4, h5⟩ := h
  exact ⟨_, n, zs, h1, h2, Nat.le_refl _, hn, h3, h4, h5⟩

set_option maxHeartbeats 1000000 in
theorem shl_any (a : Option Addr) (xs : List Nat) (c n : Nat) (w : World) (hx : Rd w a xs) (hxc : xs.length ≤ c) (hc : c ≤ maxLen) (hxl : xs.length ≤ 1100000) (hn : n ≤ 65536) :
    Calls Tryz.prog 88 #[.slice a xs.length c, .int .i64 n] w (MadeC w (val xs * 2 ^ n) (n / 32 + (limbs (val xs)).length + 1)) := by
  have H1 := Lib.hid (trim_any a xs c w hx hxc hc)
  have h1 := hx.limbs
  have hl1 := limbs_len_le hx.lt32
  have Hv1 := Lib.hid (val_limbs (val xs))
  go_enter Tryz.func88, Tryz.ntmps88
  go_wp2_with fail
  refine H1.out.mono ?_
  rintro e w2 ⟨rfl, rfl⟩
  clear H1 hx
  generalize limbs (val xs) = us at *
  have hmk := make_u32c ((n : Int) / 32) ((n : Int) / 32 + us.length + 1) (n / 32) (n / 32 + us.length + 1) (by omega) (by omega) (by omega) (by omega)
  go_wp2_with fail
  clear hmk
  have hr : n % 32 < 32 := Nat.mod_lt _ (by decide)
  go_loopw [5, 6, 23] (fun v cy ix wr => ∃ (k cr : Nat) (a' : Option Addr) (c' : Nat) (zs : List Nat), k ≤ us.length ∧ ix = .int .i64 k ∧ cy = .int .u64 cr ∧ v = .slice a' zs.length c' ∧ cr < 2 ^ (n % 32) ∧
      zs.length = n / 32 + k ∧ Own wr w.heap.size (.slice a' zs.length c') zs ∧ val zs + 4294967296 ^ (n / 32 + k) * cr = 4294967296 ^ (n / 32) * (2 ^ (n % 32) * val (us.take k)) ∧ Kp w wr) (fun _ _ ix _ => us.length - (intOf ix).toNat)
  case atStart =>
    refine ⟨0, 0, _, _, List.replicate (n / 32) 0, Nat.zero_le _, rfl, rfl, by rw [List.length_replicate], two_pow_pos _, by simp, ?_, by simp [val, val_replicate], (Kp.refl _).alloc _⟩
    rw [List.length_replicate]
    exact Own.made _ _ _ (by omega) (by omega) _ (Nat.le_refl _)
  case round =>
    obtain ⟨k, cr, a', c', zs, hk, rfl, rfl, rfl, hcr, hzl, hown, hvz, hkp⟩ := hrel
    have Hvz := Lib.hid hvz
    have Hzl := Lib.hid hzl
    have hzl1 : zs.length ≤ n / 32 + k := by omega
    have Hcr := Lib.hid hcr
    clear hvz hzl hcr
    by_cases hlt : k < us.length
    · obtain ⟨b1, o1, rfl, hcx⟩ := (h1.kp hkp).some hlt
      have hx1 := hcx k hlt
      have bx := h1.lt32.nth k
      obtain ⟨s, hor, hs, hs2, hs3⟩ := shl_or bx hr Hcr.out
      have Hst := Lib.hid (shl_step (zs := zs) (q := n / 32) (k := k) Hzl.out Hvz.out hs)
      have Hs2 := Lib.hid hs2
      clear hcx hs hs2
      go_wp2_with (at_builtin; refine wpList_append_u32 rfl _ _ rfl w.heap.size _ _ rfl (hown.alloc _) _ _ rfl (World.cell?_alloc_new _ _ _ _) (s % 4294967296) (by omega) (by omega) (by omega) (by have := hkp.size; simp; omega) ?_; intro a2 c2 w2 hown2 hb2)
      go_roundw
      case rel =>
        refine ⟨k + 1, s / 4294967296, a2, c2, zs ++ [s % 4294967296], by omega, by go_num, by congr 1, by simp, Hs2.out, by simp [Hzl.out]; omega, by simpa using hown2, ?_, ((hkp.alloc _).below.trans hb2)⟩
        rw [val_take_step]; exact Hst.out
      case measure => simp [intOf]; omega
    · have hke : k = us.length := by omega
      have Hke := Lib.hid hke
      have Hcr2 := Lib.hid (Nat.lt_of_lt_of_le Hcr.out (Nat.pow_le_pow_right (by decide) (show n % 32 ≤ 31 by omega)))
      have hcr3 : cr < 4294967296 := by have := Hcr2.out; omega
      clear hke
      go_wp2_with (at_builtin; refine wpList_append_u32 rfl _ _ rfl w.heap.size _ _ rfl (hown.alloc _) _ _ rfl (World.cell?_alloc_new _ _ _ _) cr (by omega) (by omega) (by omega) (by have := hkp.size; simp; omega) ?_; intro a2 c2 w2 hown2 hb2)
      go_ret
      obtain ⟨h5, h6, h7, h8⟩ := hown2.rd
      have e2 := Hvz.out
      rw [Hke.out, List.take_of_length_le (Nat.le_refl _), ← Nat.mul_assoc, pow_split, Hv1.out] at e2
      refine ⟨a2, c2, zs ++ [cr], ret_len (by rw [Hzl.out, Hke.out]), by simp [Hzl.out, Hke.out], by simpa [Hzl.out, Hke.out] using h6, h7, ?_, h8, (hkp.alloc _).below.trans hb2⟩
      rw [val_snoc, Hzl.out, Hke.out, e2, Nat.mul_comm]
end Go.Proofs.YtkkiinbgjjjcoaaGreatDoor
end
