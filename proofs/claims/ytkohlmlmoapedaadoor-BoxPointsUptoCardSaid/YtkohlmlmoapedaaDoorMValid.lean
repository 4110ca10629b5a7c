/-
  Walks: dyadic.Valid.
  Plain: a rounded number is the greatest one below, or the least one above; no program in sight.
-/
import Derived.Test.YtkohlmlmoapedaaDoorMDyA
import Derived.Test.YtkohlmlmoapedaaDoorMBits
section
namespace Go.Proofs.YtkohlmlmoapedaaDoor
open Go.RowKit

/-- is a number with these fields valid? -/
def vld (s : Bool) (xs : List Nat) (e : Int) : Bool :=
  if xs = [] then !s && decide (e = 0)
  else decide (xs.length ≤ 256) && (decide (nth xs 0 % 2 = 1) && (decide (nth xs (xs.length - 1) ≠ 0) && inrB (val xs) e))
/-- the number with these fields -/
def dyOf (s : Bool) (xs : List Nat) (e : Int) : Dy := ⟨s, val xs, e⟩
theorem val_mod_two {xs : List Nat} : val xs % 2 = nth xs 0 % 2 := by
  cases xs with
  | nil => rfl
  | cons x xs => rw [nth_cons_zero, val_cons]; omega
theorem vld_ok {s : Bool} {xs : List Nat} {e : Int} (h : Lt32 xs) (hv : vld s xs e = true) : (dyOf s xs e).ok ∧ limbs (val xs) = xs ∧ xs.length ≤ 256 := by
  unfold vld at hv
  split at hv
  · next h0 =>
    subst h0
    simp at hv
    exact ⟨.inl ⟨rfl, hv.1, hv.2⟩, limbs_zero, by simp⟩
  · next h0 =>
    simp only [Bool.and_eq_true, decide_eq_true_eq] at hv
    obtain ⟨h1, h2, h3, h4⟩ := hv
    have ht := top_of_nth (fun _ => h3)
    have hl := limbs_val h ht
    refine ⟨.inr ?_, hl, h1⟩
    unfold inrB at h4
    have h5 := of_decide_eq_true h4
    have hne : val xs ≠ 0 := fun h0' => h0 (val_eq_zero_top ht h0')
    have := bits_pos hne
    refine ⟨by show val xs % 2 = 1; rw [val_mod_two]; exact h2, ?_⟩
    show bits (val xs) ≤ 4096 ∧ -16384 ≤ e ∧ e ≤ 16384 ∧ (bits (val xs) : Int) + e ≤ 16384
    omega
theorem limbs_len_bits {n k : Nat} (h : bits n ≤ 32 * k) : (limbs n).length ≤ k := limbs_length_le.2 (by rw [pow32]; exact bits_le.1 h)
theorem ok_vld {d : Dy} (h : d.ok) : vld d.neg (limbs d.m) d.e = true := by
  unfold vld
  rcases h with ⟨h1, h2, h3⟩ | ⟨h1, h2, h3, h4, h5⟩
  · rw [h1, limbs_zero, if_pos rfl, h2, h3]; rfl
  · have h0 : d.m ≠ 0 := by omega
    have hne : limbs d.m ≠ [] := by rw [Ne, limbs_eq_nil]; exact h0
    rw [if_neg hne, val_limbs]
    have hl : (limbs d.m).length ≤ 256 := limbs_len_bits (by omega)
    have hp : 0 < (limbs d.m).length := List.length_pos_iff.2 hne
    have e1 : nth (limbs d.m) 0 % 2 = 1 := by rw [← val_mod_two, val_limbs]; exact h1
    have e2 := top_nth (limbs_top d.m) hp
    have e3 : inrB d.m d.e = true := decide_eq_true (.inr ⟨h2, h3, h4, h5⟩)
    rw [e3]
    simp [hl, e1, e2]
theorem ok_len {d : Dy} (h : d.ok) : (limbs d.m).length ≤ 128 := by
  rcases h with ⟨h1, h2, h3⟩ | ⟨h1, h2, h3, h4, h5⟩
  · rw [h1, limbs_zero]; simp
  · exact limbs_len_bits (by omega)

set_option maxHeartbeats 4000000 in
set_option maxRecDepth 100000 in
theorem Valid_any (s : Bool) (a : Option Addr) (xs : List Nat) (c : Nat) (ex : Int) (w : World) (h : Rd w a xs) (hc : xs.length ≤ c) (hm : c ≤ maxLen) (hl : xs.length ≤ 1100000) (he : I64 ex) :
    Calls Tryd.prog 47 #[.agg #[.bool s, .slice a xs.length c, .int .i64 ex]] w fun e w' => e = .returned (.bool (vld s xs ex)) ∧ Kp w w' := by
  have Hr := Lib.hid (inRange_any s a xs c ex (w.alloc (.cells #[.bool s, .slice a xs.length c, .int .i64 ex] 36)) (h.kp ((Kp.refl w).alloc _)) hc hm hl he)
  by_cases h0 : xs = []
  · have H := Lib.hid (show vld s xs ex = (!s && decide (ex = 0)) by unfold vld; rw [if_pos h0])
    have hz : xs.length = 0 := by rw [h0]; rfl
    clear h0
    rw [hz]
    cases s with
    | false =>
      by_cases hx : ex = 0
      · have hx2 : (ex == 0) = true := beq_iff_eq.2 hx
        have Hx := Lib.hid hx
        clear hx
        go_enter Tryd.func47, Tryd.ntmps47
        go_wp2_with fail
        go_ret
        exact ⟨ret_bool (by rw [H.out, Hx.out]; rfl), (Kp.refl w).alloc _⟩
      · have hx2 : (ex == 0) = false := beq_eq_false_iff_ne.2 hx
        go_enter Tryd.func47, Tryd.ntmps47
        go_wp2_with fail
        go_ret
        exact ⟨ret_bool (by rw [H.out]; simp [hx]), (Kp.refl w).alloc _⟩
    | true =>
      go_enter Tryd.func47, Tryd.ntmps47
      go_wp2_with fail
      go_ret
      exact ⟨ret_bool (by rw [H.out]; rfl), (Kp.refl w).alloc _⟩
  · have H := Lib.hid (show vld s xs ex = (decide (xs.length ≤ 256) && (decide (nth xs 0 % 2 = 1) && (decide (nth xs (xs.length - 1) ≠ 0) && inrB (val xs) ex))) by unfold vld; rw [if_neg h0])
    have hpos : 0 < xs.length := List.length_pos_iff.2 h0
    clear h0
    have hz : ((xs.length : Int) == 0) = false := beq_eq_false_iff_ne.2 (by omega)
    obtain ⟨b, o, rfl, hcell⟩ := (h.kp ((Kp.refl w).alloc (.cells #[.bool s, .slice a xs.length c, .int .i64 ex] 36))).some hpos
    have x0 := hcell 0 hpos
    have x1 := hcell (xs.length - 1) (by omega)
    rw [Nat.add_zero] at x0
    clear hcell
    by_cases h1 : xs.length ≤ 256
    · by_cases h2 : nth xs 0 % 2 = 1
      · have h2' : ((nth xs 0 : Int) % 2 == 1) = true := beq_iff_eq.2 (by omega)
        by_cases h3 : nth xs (xs.length - 1) = 0
        · have h3' : ((nth xs (xs.length - 1) : Int) != 0) = false := by rw [h3]; rfl
          have H3 := Lib.hid h3
          have H2 := Lib.hid h2
          clear h3 h2
          go_enter Tryd.func47, Tryd.ntmps47
          go_wp2_with fail
          go_ret
          exact ⟨ret_bool (by rw [H.out, H3.out]; simp), (Kp.refl w).alloc _⟩
        · have h3' : ((nth xs (xs.length - 1) : Int) != 0) = true := by rw [bne_iff_ne]; omega
          have H3 := Lib.hid h3
          have H2 := Lib.hid h2
          clear h3 h2
          go_enter Tryd.func47, Tryd.ntmps47
          go_wp2_with fail
          refine Hr.out.mono ?_
          rintro e w1 ⟨rfl, hk⟩
          go_wp2_with fail
          go_ret
          exact ⟨ret_bool (by rw [H.out]; simp [H3.out, H2.out, h1]), ((Kp.refl w).alloc _).trans hk⟩
      · have h2' : ((nth xs 0 : Int) % 2 == 1) = false := beq_eq_false_iff_ne.2 (by omega)
        have H2 := Lib.hid h2
        clear h2
        go_enter Tryd.func47, Tryd.ntmps47
        go_wp2_with fail
        go_ret
        exact ⟨ret_bool (by rw [H.out]; simp [H2.out]), (Kp.refl w).alloc _⟩
    · have h1' : decide ((xs.length : Int) ≤ 256) = false := decide_eq_false (by omega)
      go_enter Tryd.func47, Tryd.ntmps47
      go_wp2_with fail
      go_ret
      exact ⟨ret_bool (by rw [H.out]; simp; omega), (Kp.refl w).alloc _⟩
end Go.Proofs.YtkohlmlmoapedaaDoor
end

section
namespace Go.Proofs.YtkohlmlmoapedaaDoor

/-- the absolute value times 2^16384 -/
def Dy.av (d : Dy) : Nat := d.m * 2 ^ (d.e + 16384).toNat
theorem Dy.iv_av (d : Dy) : d.iv = sg d.neg d.av := rfl
theorem canon_av (neg : Bool) (n : Nat) (u : Int) (h : -16384 ≤ u) : (canon neg n u).av = n * 2 ^ (u + 16384).toNat := by
  unfold canon
  split
  · next h0 => subst h0; unfold Dy.av Dy.zero; rw [Nat.zero_mul, Nat.zero_mul]
  · next h0 =>
    unfold Dy.av
    simp only []
    conv => rhs; lhs; rw [(oddp_spec h0).2]
    rw [Nat.mul_assoc, ← Nat.pow_add]
    congr 2; omega
theorem canon_neg (neg : Bool) (n : Nat) (u : Int) : (canon neg n u).neg = (neg && decide (n ≠ 0)) := by
  unfold canon
  split
  · next h0 => subst h0; simp [Dy.zero]
  · next h0 => simp [h0]

theorem top_le {m b s T p : Nat} (hm : m < 2 ^ b) (hb : b ≤ p) (hp : p ≤ T) (hs : b + s ≤ T) : m * 2 ^ s ≤ (2 ^ p - 1) * 2 ^ (T - p) := by
  have e1 : (2 ^ p - 1) * 2 ^ (T - p) = 2 ^ T - 2 ^ (T - p) := by
    rw [Nat.sub_mul, ← Nat.pow_add, Nat.one_mul]; congr 2; omega
  have e2 : m * 2 ^ s ≤ (2 ^ b - 1) * 2 ^ (T - b) :=
    Nat.mul_le_mul (by omega) (Nat.pow_le_pow_right (by decide) (by omega))
  have e3 : (2 ^ b - 1) * 2 ^ (T - b) = 2 ^ T - 2 ^ (T - b) := by
    rw [Nat.sub_mul, ← Nat.pow_add, Nat.one_mul]; congr 2; omega
  have e4 : 2 ^ (T - p) ≤ 2 ^ (T - b) := Nat.pow_le_pow_right (by decide) (by omega)
  have e5 : 2 ^ (T - b) ≤ 2 ^ T := Nat.pow_le_pow_right (by decide) (by omega)
  omega
theorem top_lt {m b s T : Nat} (hm : m < 2 ^ b) (hs : b + s ≤ T) : m * 2 ^ s < 2 ^ T := by
  calc m * 2 ^ s < 2 ^ b * 2 ^ s := Nat.mul_lt_mul_of_pos_right hm (two_pow_pos s)
    _ = 2 ^ (b + s) := by rw [Nat.pow_add]
    _ ≤ 2 ^ T := Nat.pow_le_pow_right (by decide) hs

/-- what the absolute value of a number of p bits looks like -/
theorem isP_shape {p : Nat} {d : Dy} (h : isP p d) : ∃ b s, d.av = d.m * 2 ^ s ∧ d.m < 2 ^ b ∧ b ≤ p ∧ b + s ≤ 32768 := by
  obtain ⟨h1, h2⟩ := h
  rcases h1 with ⟨h1, _, h3⟩ | ⟨h1, h3, h4, h5, h6⟩
  · exact ⟨0, 0, by unfold Dy.av; rw [h1]; simp, by rw [h1]; decide, by omega, by omega⟩
  · exact ⟨bits d.m, _, rfl, lt_two_pow_bits _, h2, by omega⟩

section
variable {n K p : Nat}
theorem rlow_div (e u : Int) (h : e ≤ u) : rlow n e u = n / 2 ^ (u - e).toNat := by
  unfold rlow
  split
  · next h1 => obtain rfl : e = u := by omega
               simp
  · rfl
theorem rlost_mod (e u : Int) (h : e ≤ u) : rlost n e u = !decide (n % 2 ^ (u - e).toNat = 0) := by
  unfold rlost
  by_cases h1 : u ≤ e
  · obtain rfl : e = u := by omega
    simp [Nat.mod_one]
  · simp [h1]
/-- the unit u of n 2^(-16384-K), as t above the grid: what it hangs on -/
theorem unit_shape (hn : n ≠ 0) (hp : 0 < p) : ∃ t : Nat, runit n (-16384 - K) p = (t : Int) - 16384 ∧ (0 < t → 2 ^ (p - 1) ≤ n / 2 ^ (t + K) ∧ bits n = t + K + p) := by
  refine ⟨(runit n (-16384 - K) p + 16384).toNat, ?_, ?_⟩
  · have := @runit_ge n (-16384 - K) p; omega
  · intro ht
    have hb : bits n = (runit n (-16384 - K) p + 16384).toNat + K + p := by unfold runit at ht ⊢; omega
    refine ⟨?_, hb⟩
    rw [Nat.le_div_iff_mul_le (two_pow_pos _), ← Nat.pow_add]
    refine Nat.le_trans (Nat.pow_le_pow_right (by decide) ?_) (two_pow_le_of_bits hn)
    omega

theorem down_core (hp : 0 < p) {t s m : Nat} (ht : 0 < t → 2 ^ (p - 1) ≤ n / 2 ^ (t + K)) (hm : m < 2 ^ p) (hle : m * 2 ^ s * 2 ^ K ≤ n) : m * 2 ^ s ≤ n / 2 ^ (t + K) * 2 ^ t := by
  by_cases hs : t ≤ s
  · have e : m * 2 ^ s = m * 2 ^ (s - t) * 2 ^ t := by rw [Nat.mul_assoc, ← Nat.pow_add]; congr 2; omega
    rw [e]
    apply Nat.mul_le_mul_right
    rw [Nat.le_div_iff_mul_le (two_pow_pos _), Nat.pow_add, ← Nat.mul_assoc, ← e]
    exact hle
  · have h1 := ht (by omega)
    calc m * 2 ^ s ≤ 2 ^ p * 2 ^ s := Nat.mul_le_mul_right _ (by omega)
      _ = 2 ^ (p + s) := by rw [Nat.pow_add]
      _ ≤ 2 ^ (p - 1 + t) := Nat.pow_le_pow_right (by decide) (by omega)
      _ = 2 ^ (p - 1) * 2 ^ t := by rw [Nat.pow_add]
      _ ≤ _ := Nat.mul_le_mul_right _ h1

theorem ceil_le {a b c : Nat} (hb : 0 < b) (h : a ≤ c * b) : (if a % b = 0 then a / b else a / b + 1) ≤ c := by
  have h1 := Nat.div_add_mod a b
  split
  · next h0 => rw [h0] at h1; exact Nat.le_of_mul_le_mul_right (by rw [Nat.mul_comm] at h1; omega) hb
  · next h0 =>
    have : a / b < c := by
      rw [Nat.div_lt_iff_lt_mul hb]
      rcases Nat.lt_or_eq_of_le h with h2 | h2
      · exact h2
      · exact absurd (by rw [h2]; exact Nat.mul_mod_left _ _) h0
    exact this
theorem le_ceil {a b : Nat} (hb : 0 < b) : a ≤ (if a % b = 0 then a / b else a / b + 1) * b := by
  have h1 := Nat.div_add_mod a b
  have h2 := Nat.mod_lt a hb
  rw [Nat.mul_comm] at h1
  split
  · omega
  · rw [Nat.add_mul]; omega

theorem up_core (hn : n ≠ 0) {t s m : Nat} (ht : 0 < t → bits n = t + K + p) (hm : m < 2 ^ p) (hle : n ≤ m * 2 ^ s * 2 ^ K) : (if n % 2 ^ (t + K) = 0 then n / 2 ^ (t + K) else n / 2 ^ (t + K) + 1) * 2 ^ t ≤ m * 2 ^ s := by
  by_cases hs : t ≤ s
  · have e : m * 2 ^ s = m * 2 ^ (s - t) * 2 ^ t := by rw [Nat.mul_assoc, ← Nat.pow_add]; congr 2; omega
    rw [e]
    apply Nat.mul_le_mul_right
    apply ceil_le (two_pow_pos _)
    rw [Nat.pow_add, ← Nat.mul_assoc, ← e]
    exact hle
  · exfalso
    have h1 := ht (by omega)
    have h2 := two_pow_le_of_bits hn
    have h3 : m * 2 ^ s * 2 ^ K < 2 ^ p * 2 ^ s * 2 ^ K := Nat.mul_lt_mul_of_pos_right (Nat.mul_lt_mul_of_pos_right hm (two_pow_pos s)) (two_pow_pos K)
    rw [← Nat.pow_add, ← Nat.pow_add] at h3
    have h4 : 2 ^ (p + s + K) ≤ 2 ^ (bits n - 1) := Nat.pow_le_pow_right (by decide) (by omega)
    omega

theorem rq_down {t : Nat} (hu : runit n (-16384 - K) p = (t : Int) - 16384) : rq n (-16384 - K) false p false = n / 2 ^ (t + K) := by
  unfold rq
  simp only [Bool.false_and, Bool.false_eq_true, if_false]
  rw [hu, rlow_div _ _ (by omega)]
  congr 2; omega
theorem rq_up {t : Nat} (hu : runit n (-16384 - K) p = (t : Int) - 16384) : rq n (-16384 - K) false p true = if n % 2 ^ (t + K) = 0 then n / 2 ^ (t + K) else n / 2 ^ (t + K) + 1 := by
  unfold rq
  rw [hu, rlow_div _ _ (by omega), rlost_mod _ _ (by omega), show ((t : Int) - 16384 - (-16384 - K)).toNat = t + K from by omega]
  by_cases h : n % 2 ^ (t + K) = 0 <;> simp [h]

theorem rcut_down (hn : n ≠ 0) (hp : 0 < p) (hp2 : p ≤ 4096) : ∃ d, rcut n (-16384 - K) false p false = some d ∧ d.av * 2 ^ K ≤ n ∧ ∀ d', isP p d' → d'.av * 2 ^ K ≤ n → d'.av ≤ d.av := by
  obtain ⟨t, hu, ht⟩ := unit_shape (K := K) (p := p) hn hp
  have hq := rq_down hu
  unfold rcut
  rw [hq, hu]
  have hdm := Nat.div_mul_le_self n (2 ^ (t + K))
  have hav : (canon false (2 ^ p - 1) (16384 - p)).av = (2 ^ p - 1) * 2 ^ (32768 - p) := by
    rw [canon_av _ _ _ (by omega)]; congr 2; omega
  split
  · next hb =>
    refine ⟨_, if_neg (by decide), ?_, ?_⟩
    · rw [hav]
      have h0 : n / 2 ^ (t + K) ≠ 0 := by
        intro h0
        rw [h0] at hb ht
        have h1 := bits_zero
        have := two_pow_pos (p - 1)
        by_cases htt : 0 < t
        · have := (ht htt).1; omega
        · omega
      have h1 := two_pow_le_of_bits h0
      have h2 : (2 ^ p - 1) * 2 ^ (32768 - p) ≤ n / 2 ^ (t + K) * 2 ^ t := by
        calc (2 ^ p - 1) * 2 ^ (32768 - p) ≤ 2 ^ p * 2 ^ (32768 - p) := Nat.mul_le_mul_right _ (Nat.sub_le _ _)
          _ = 2 ^ (p + (32768 - p)) := by rw [Nat.pow_add]
          _ ≤ 2 ^ (bits (n / 2 ^ (t + K)) - 1 + t) := Nat.pow_le_pow_right (by decide) (by omega)
          _ = 2 ^ (bits (n / 2 ^ (t + K)) - 1) * 2 ^ t := by rw [Nat.pow_add]
          _ ≤ _ := Nat.mul_le_mul_right _ h1
      calc (2 ^ p - 1) * 2 ^ (32768 - p) * 2 ^ K ≤ n / 2 ^ (t + K) * 2 ^ t * 2 ^ K := Nat.mul_le_mul_right _ h2
        _ = n / 2 ^ (t + K) * 2 ^ (t + K) := by rw [Nat.mul_assoc, ← Nat.pow_add]
        _ ≤ n := hdm
    · intro d' hd' _
      obtain ⟨b, s, e1, e2, e3, e4⟩ := isP_shape hd'
      rw [hav, e1]
      exact top_le e2 e3 (by omega) e4
  · next hb =>
    refine ⟨_, rfl, ?_, ?_⟩
    · rw [canon_av _ _ _ (by omega), show ((t : Int) - 16384 + 16384).toNat = t from by omega, Nat.mul_assoc, ← Nat.pow_add]
      exact hdm
    · intro d' hd' hle
      obtain ⟨b, s, e1, e2, e3, e4⟩ := isP_shape hd'
      rw [canon_av _ _ _ (by omega), show ((t : Int) - 16384 + 16384).toNat = t from by omega, e1]
      rw [e1] at hle
      exact down_core hp (fun h => (ht h).1) (Nat.lt_of_lt_of_le e2 (Nat.pow_le_pow_right (by decide) e3)) hle

theorem rcut_up (hn : n ≠ 0) (hp : 0 < p) :
    (rcut n (-16384 - K) false p true = none ∧ ∀ d', isP p d' → ¬ n ≤ d'.av * 2 ^ K) ∨
    ∃ d, rcut n (-16384 - K) false p true = some d ∧ n ≤ d.av * 2 ^ K ∧ ∀ d', isP p d' → n ≤ d'.av * 2 ^ K → d.av ≤ d'.av := by
  obtain ⟨t, hu, ht⟩ := unit_shape (K := K) (p := p) hn hp
  have hq := rq_up hu
  unfold rcut
  rw [hq, hu]
  have hce := le_ceil (a := n) (two_pow_pos (t + K))
  have hup : ∀ m s, m < 2 ^ p → n ≤ m * 2 ^ s * 2 ^ K → (if n % 2 ^ (t + K) = 0 then n / 2 ^ (t + K) else n / 2 ^ (t + K) + 1) * 2 ^ t ≤ m * 2 ^ s := fun m s h1 h2 => up_core hn (fun h => (ht h).2) h1 h2
  generalize (if n % 2 ^ (t + K) = 0 then n / 2 ^ (t + K) else n / 2 ^ (t + K) + 1) = q at *
  have h0 : q ≠ 0 := by
    intro h0
    subst h0
    rw [Nat.zero_mul] at hce; omega
  by_cases hb : (bits q : Int) + ((t : Int) - 16384) > 16384
  · refine .inl ⟨by rw [if_pos hb, if_pos rfl], fun d' hd' hle => ?_⟩
    obtain ⟨b, s, e1, e2, e3, e4⟩ := isP_shape hd'
    rw [e1] at hle
    have h1 := hup _ _ (Nat.lt_of_lt_of_le e2 (Nat.pow_le_pow_right (by decide) e3)) hle
    have h3 := two_pow_le_of_bits h0
    obtain ⟨T, hT⟩ : ∃ T : Nat, T = 32768 := ⟨_, rfl⟩
    have h2 : d'.m * 2 ^ s < 2 ^ T := top_lt e2 (by omega)
    have h4 : 2 ^ T ≤ 2 ^ (bits q - 1 + t) := Nat.pow_le_pow_right (by decide) (by omega)
    rw [Nat.pow_add] at h4
    have h5 : 2 ^ (bits q - 1) * 2 ^ t ≤ q * 2 ^ t := Nat.mul_le_mul_right _ h3
    exact absurd (Nat.le_trans h4 (Nat.le_trans h5 h1)) (Nat.not_le.2 h2)
  · refine .inr ⟨_, if_neg hb, ?_, ?_⟩
    · rw [canon_av _ _ _ (by omega), show ((t : Int) - 16384 + 16384).toNat = t from by omega, Nat.mul_assoc, ← Nat.pow_add]
      exact hce
    · intro d' hd' hle
      obtain ⟨b, s, e1, e2, e3, e4⟩ := isP_shape hd'
      rw [canon_av _ _ _ (by omega), show ((t : Int) - 16384 + 16384).toNat = t from by omega, e1]
      rw [e1] at hle
      exact hup _ _ (Nat.lt_of_lt_of_le e2 (Nat.pow_le_pow_right (by decide) e3)) hle
end

end Go.Proofs.YtkohlmlmoapedaaDoor
end
