/-
  Plain: a mantissa at any exponent, rounded, is its value rounded; no program in sight.
-/
import Derived.Test.YtdlpiblgkpgplaaGreatDoorMRoSq
namespace Go.Proofs.YtdlpiblgkpgplaaGreatDoor
open Go.RowKit

theorem rndS_rnde {s : Bool} {M p : Nat} {e : Int} {up : Bool} (hM : M ≠ 0) : rndS s M e false p up = rnde (sg s M) e p up := by
  unfold rndS sgnR rnde
  have hs : sg s M ≠ 0 := fun h => hM (sg_eq_zero.1 h)
  rw [if_neg hs]
  cases s with
  | true =>
    have hlt : sg true M < 0 := by unfold sg; simp; omega
    have : (sg true M).natAbs = M := by unfold sg; simp
    rw [if_pos hlt, this, if_pos rfl]
    cases up <;> rfl
  | false =>
    have hlt : ¬ sg false M < 0 := by unfold sg; simp
    have : (sg false M).natAbs = M := by unfold sg; simp
    rw [if_neg hlt, this]
    simp
/-- the mantissa M at the exponent e has the value S in steps of 2^-16384 -/
theorem rndS_val {s : Bool} {M p a b : Nat} {e S : Int} {up : Bool} (hM : M ≠ 0) (h : S * 2 ^ a = sg s M * 2 ^ b) (he : e = (b : Int) - a - 16384) : rndS s M e false p up = rnd 0 S p up := by
  rw [rndS_rnde hM]
  have h1 : rnd 0 S p up = rnde S (-16384) p up := by
    have := rnde_rnd 0 S p up
    rw [show (-16384 - ((0 : Nat) : Int)) = -16384 from rfl] at this
    exact this.symm
  rw [h1, ← rnde_shift S a (-16384) p up, h, show (-16384 : Int) - a = e - b from by omega, rnde_shift]
theorem rndS_more {s : Bool} {m k F p : Nat} {e : Int} {up : Bool} (hm : m ≠ 0) (hF : F < 2 ^ k) (hb : F ≠ 0 → p < bits m) :
    rndS s m e (decide (F ≠ 0)) p up = rndS s (m * 2 ^ k + F) (e - k) false p up := by
  unfold rndS sgnR
  have h (u : Bool) : rcut m e (decide (F ≠ 0)) p u = rcut (m * 2 ^ k + F) (e - k) false p u := by
    have := rcut_more (m := m) (k := k) (f := F) (p := p) (e := e) (more := false) (up := u) hm hF (by simpa using hb)
    simpa using this
  rw [h]
theorem sg_mul (s : Bool) (n k : Nat) : sg s n * ((2 ^ k : Nat) : Int) = sg s (n * 2 ^ k) := by
  unfold sg
  split
  · rw [Int.neg_mul, Int.natCast_mul]
  · rw [Int.natCast_mul]
theorem sg_add (s : Bool) (m n : Nat) : sg s m + sg s n = sg s (m + n) := by
  unfold sg; split <;> omega
theorem sg_sub {s t : Bool} (h : s ≠ t) {m n : Nat} (hn : n ≤ m) : sg s m + sg t n = sg s (m - n) := by
  cases s <;> cases t <;> simp [sg] at h ⊢ <;> omega
theorem iv_scale {d : Dy} (h0 : -16384 ≤ d.e) {low : Int} (hl : low ≤ d.e) : d.iv * 2 ^ (-(low + 16384)).toNat = sg d.neg (d.m * 2 ^ (d.e - low).toNat) * 2 ^ (low + 16384).toNat := by
  have e1 : ((2 : Int) ^ (-(low + 16384)).toNat) = ((2 ^ (-(low + 16384)).toNat : Nat) : Int) := by push_cast; rfl
  have e2 : ((2 : Int) ^ (low + 16384).toNat) = ((2 ^ (low + 16384).toNat : Nat) : Int) := by push_cast; rfl
  rw [e1, e2, sg_mul]
  unfold Dy.iv
  rw [sg_mul, Nat.mul_assoc, Nat.mul_assoc, ← Nat.pow_add, ← Nat.pow_add]
  congr 3; omega
section
variable {d f : Dy} {p : Nat} {low : Int} {up : Bool}
/-- the sum of two numbers of one sign, both on the unit 2^low -/
theorem sum_same_at (hd : d.ok) (hf : f.ok) (hd0 : d.m ≠ 0) (h1 : low ≤ d.e) (h2 : low ≤ f.e) (hs : d.neg = f.neg) :
    rndS d.neg (d.m * 2 ^ (d.e - low).toNat + f.m * 2 ^ (f.e - low).toNat) low false p up = rnd 0 (d.iv + f.iv) p up := by
  refine rndS_val (a := (-(low + 16384)).toNat) (b := (low + 16384).toNat) ?_ ?_ (by omega)
  · have := Nat.mul_ne_zero hd0 (two_pow_ne (d.e - low).toNat); omega
  · rw [Int.add_mul, iv_scale (ok_e hd).1 h1, iv_scale (ok_e hf).1 h2, ← Int.add_mul, ← hs, sg_add]
/-- .. of different signs, the first one being greater -/
theorem sum_diff_at (hd : d.ok) (hf : f.ok) (h1 : low ≤ d.e) (h2 : low ≤ f.e) (hs : d.neg ≠ f.neg) (hlt : f.m * 2 ^ (f.e - low).toNat < d.m * 2 ^ (d.e - low).toNat) :
    rndS d.neg (d.m * 2 ^ (d.e - low).toNat - f.m * 2 ^ (f.e - low).toNat) low false p up = rnd 0 (d.iv + f.iv) p up := by
  refine rndS_val (a := (-(low + 16384)).toNat) (b := (low + 16384).toNat) (by omega) ?_ (by omega)
  rw [Int.add_mul, iv_scale (ok_e hd).1 h1, iv_scale (ok_e hf).1 h2, ← Int.add_mul, sg_sub hs (by omega)]
theorem shift_split {D k j l : Nat} (h : j + k = l) : D * 2 ^ j * 2 ^ k = D * 2 ^ l := by rw [Nat.mul_assoc, ← Nat.pow_add, h]
theorem bits_ge_of {n k : Nat} (h : 2 ^ k ≤ n) : k < bits n := lt_bits.2 h
/-- the sum of two numbers of one sign, the lower part of the second one seen as 'lost' alone -/
theorem sum_same_lost (hd : d.ok) (hf : f.ok) (hd0 : d.m ≠ 0) (h1 : low ≤ d.e) (h2 : f.e < low) (hp : low + p + 8 ≤ (bits d.m : Int) + d.e) (hs : d.neg = f.neg) :
    rndS d.neg (d.m * 2 ^ (d.e - low).toNat + f.m / 2 ^ (low - f.e).toNat) low (decide (f.m % 2 ^ (low - f.e).toNat ≠ 0)) p up = rnd 0 (d.iv + f.iv) p up := by
  obtain ⟨k, hk⟩ : ∃ k, k = (low - f.e).toNat := ⟨_, rfl⟩
  rw [← hk]
  have hX : 2 ^ (p + 7) ≤ d.m * 2 ^ (d.e - low).toNat := by
    have h3 := two_pow_le_of_bits hd0
    have h4 := bits_pos hd0
    calc 2 ^ (p + 7) ≤ 2 ^ (bits d.m - 1 + (d.e - low).toNat) := Nat.pow_le_pow_right (by decide) (by omega)
      _ = 2 ^ (bits d.m - 1) * 2 ^ (d.e - low).toNat := Nat.pow_add _ _ _
      _ ≤ _ := Nat.mul_le_mul_right _ h3
  have hpos := Nat.lt_of_lt_of_le (two_pow_pos (p + 7)) hX
  rw [rndS_more (m := d.m * 2 ^ (d.e - low).toNat + f.m / 2 ^ k) (k := k) (Nat.ne_of_gt (Nat.lt_of_lt_of_le hpos (Nat.le_add_right _ _))) (Nat.mod_lt _ (two_pow_pos k)) (fun _ => Nat.lt_of_le_of_lt (by omega : p ≤ p + 7) (bits_ge_of (Nat.le_trans hX (Nat.le_add_right _ _))))]
  have e1 : (d.m * 2 ^ (d.e - low).toNat + f.m / 2 ^ k) * 2 ^ k + f.m % 2 ^ k = d.m * 2 ^ (d.e - f.e).toNat + f.m * 2 ^ (f.e - f.e).toNat := by
    rw [Nat.add_mul, shift_split (l := (d.e - f.e).toNat) (by omega), show (f.e - f.e).toNat = 0 from by omega, Nat.pow_zero, Nat.mul_one, Nat.add_assoc]
    congr 1
    rw [Nat.mul_comm]; exact Nat.div_add_mod _ _
  rw [e1, show low - (k : Int) = f.e from by omega]
  exact sum_same_at hd hf hd0 (by omega) (Int.le_refl _) hs
/-- .. of different signs -/
theorem sum_diff_lost (hd : d.ok) (hf : f.ok) (hd0 : d.m ≠ 0) (h1 : low ≤ d.e) (h2 : f.e < low) (hp : low + p + 8 ≤ (bits d.m : Int) + d.e) (ht : (bits f.m : Int) + f.e + 2 < (bits d.m : Int) + d.e) (hs : d.neg ≠ f.neg) (hF : f.m % 2 ^ (low - f.e).toNat ≠ 0) :
    rndS d.neg (d.m * 2 ^ (d.e - low).toNat - (f.m / 2 ^ (low - f.e).toNat + 1)) low true p up = rnd 0 (d.iv + f.iv) p up := by
  obtain ⟨k, hk⟩ : ∃ k, k = (low - f.e).toNat := ⟨_, rfl⟩
  rw [← hk] at hF ⊢
  obtain ⟨L, hL⟩ : ∃ L : Nat, (L : Int) = (bits d.m : Int) + d.e - low := ⟨((bits d.m : Int) + d.e - low).toNat, by omega⟩
  have hX : 2 ^ (L - 1) ≤ d.m * 2 ^ (d.e - low).toNat := by
    have h3 := two_pow_le_of_bits hd0
    have h4 := bits_pos hd0
    calc 2 ^ (L - 1) ≤ 2 ^ (bits d.m - 1 + (d.e - low).toNat) := Nat.pow_le_pow_right (by decide) (by omega)
      _ = 2 ^ (bits d.m - 1) * 2 ^ (d.e - low).toNat := Nat.pow_add _ _ _
      _ ≤ _ := Nat.mul_le_mul_right _ h3
  have hY : f.m / 2 ^ k < 2 ^ (L - 3) := by
    rw [Nat.div_lt_iff_lt_mul (two_pow_pos k), ← Nat.pow_add]
    exact Nat.lt_of_lt_of_le (lt_two_pow_bits f.m) (Nat.pow_le_pow_right (by decide) (by omega))
  have e2 : 2 ^ (L - 1) = 4 * 2 ^ (L - 3) := by rw [show L - 1 = 2 + (L - 3) from by omega, Nat.pow_add]
  have hlt := Nat.mod_lt f.m (two_pow_pos k)
  have hm : 2 ^ (L - 3) ≤ d.m * 2 ^ (d.e - low).toNat - (f.m / 2 ^ k + 1) := by omega
  have hpos := two_pow_pos (L - 3)
  have h := rndS_more (s := d.neg) (m := d.m * 2 ^ (d.e - low).toNat - (f.m / 2 ^ k + 1)) (k := k) (F := 2 ^ k - f.m % 2 ^ k) (p := p) (e := low) (up := up) (by omega) (by omega) (fun _ => Nat.lt_of_le_of_lt (by omega : p ≤ L - 3) (bits_ge_of hm))
  rw [decide_eq_true (show 2 ^ k - f.m % 2 ^ k ≠ 0 by omega)] at h
  rw [h]
  have e1 : (d.m * 2 ^ (d.e - low).toNat - (f.m / 2 ^ k + 1)) * 2 ^ k + (2 ^ k - f.m % 2 ^ k) = d.m * 2 ^ (d.e - f.e).toNat - f.m * 2 ^ (f.e - f.e).toNat := by
    have h5 : f.m / 2 ^ k * 2 ^ k + f.m % 2 ^ k = f.m := by rw [Nat.mul_comm]; exact Nat.div_add_mod _ _
    have h6 : (f.m / 2 ^ k + 1) * 2 ^ k ≤ d.m * 2 ^ (d.e - low).toNat * 2 ^ k := Nat.mul_le_mul_right _ (by omega)
    have h7 : (f.m / 2 ^ k + 1) * 2 ^ k = f.m / 2 ^ k * 2 ^ k + 2 ^ k := by rw [Nat.add_mul, Nat.one_mul]
    have h8 : d.m * 2 ^ (d.e - low).toNat * 2 ^ k = d.m * 2 ^ (d.e - f.e).toNat := shift_split (by omega)
    rw [Nat.sub_mul, h7, h8, show (f.e - f.e).toNat = 0 from by omega, Nat.pow_zero, Nat.mul_one]
    rw [h7, h8] at h6
    omega
  rw [e1, show low - (k : Int) = f.e from by omega]
  refine sum_diff_at hd hf (by omega) (Int.le_refl _) hs ?_
  have h5 : f.m / 2 ^ k * 2 ^ k + f.m % 2 ^ k = f.m := by rw [Nat.mul_comm]; exact Nat.div_add_mod _ _
  have h6 : (f.m / 2 ^ k + 1) * 2 ^ k ≤ d.m * 2 ^ (d.e - low).toNat * 2 ^ k := Nat.mul_le_mul_right _ (by omega)
  have h7 : (f.m / 2 ^ k + 1) * 2 ^ k = f.m / 2 ^ k * 2 ^ k + 2 ^ k := by rw [Nat.add_mul, Nat.one_mul]
  have h8 : d.m * 2 ^ (d.e - low).toNat * 2 ^ k = d.m * 2 ^ (d.e - f.e).toNat := shift_split (by omega)
  rw [h7, h8] at h6
  rw [show (f.e - f.e).toNat = 0 from by omega, Nat.pow_zero, Nat.mul_one]
  omega
/-- one sign, as round.sum has it -/
theorem sumP_same (hd : d.ok) (hf : f.ok) (hd0 : d.m ≠ 0) (h1 : low ≤ d.e) (hp : low + p + 8 ≤ (bits d.m : Int) + d.e) (hs : d.neg = f.neg) {Y : Nat} {lost : Bool}
    (hY : (low ≤ f.e ∧ Y = f.m * 2 ^ (f.e - low).toNat ∧ lost = false) ∨ (f.e < low ∧ Y = f.m / 2 ^ (low - f.e).toNat ∧ lost = !decide (f.m % 2 ^ (low - f.e).toNat = 0))) :
    rndS d.neg (d.m * 2 ^ (d.e - low).toNat + Y) low lost p up = rnd 0 (d.iv + f.iv) p up := by
  rcases hY with ⟨h2, rfl, rfl⟩ | ⟨h2, rfl, rfl⟩
  · exact sum_same_at hd hf hd0 h1 h2 hs
  · have := sum_same_lost (up := up) hd hf hd0 h1 h2 hp hs
    rw [show (!decide (f.m % 2 ^ (low - f.e).toNat = 0)) = decide (f.m % 2 ^ (low - f.e).toNat ≠ 0) by simp]
    exact this
theorem lossy_big (hd0 : d.m ≠ 0) (h1 : low ≤ d.e) (h2 : f.e < low) (hp : low + p + 8 ≤ (bits d.m : Int) + d.e) (ht : (bits f.m : Int) + f.e + 2 < (bits d.m : Int) + d.e) :
    ∃ Q, 0 < Q ∧ Q + (f.m / 2 ^ (low - f.e).toNat + 1) ≤ d.m * 2 ^ (d.e - low).toNat := by
  obtain ⟨k, hk⟩ : ∃ k, k = (low - f.e).toNat := ⟨_, rfl⟩
  rw [← hk]
  obtain ⟨L, hL⟩ : ∃ L : Nat, (L : Int) = (bits d.m : Int) + d.e - low := ⟨((bits d.m : Int) + d.e - low).toNat, by omega⟩
  have hX : 2 ^ (L - 1) ≤ d.m * 2 ^ (d.e - low).toNat := by
    have h3 := two_pow_le_of_bits hd0
    have h4 := bits_pos hd0
    calc 2 ^ (L - 1) ≤ 2 ^ (bits d.m - 1 + (d.e - low).toNat) := Nat.pow_le_pow_right (by decide) (by omega)
      _ = 2 ^ (bits d.m - 1) * 2 ^ (d.e - low).toNat := Nat.pow_add _ _ _
      _ ≤ _ := Nat.mul_le_mul_right _ h3
  have hY : f.m / 2 ^ k < 2 ^ (L - 3) := by
    rw [Nat.div_lt_iff_lt_mul (two_pow_pos k), ← Nat.pow_add]
    exact Nat.lt_of_lt_of_le (lt_two_pow_bits f.m) (Nat.pow_le_pow_right (by decide) (by omega))
  have e2 : 2 ^ (L - 1) = 4 * 2 ^ (L - 3) := by rw [show L - 1 = 2 + (L - 3) from by omega, Nat.pow_add]
  refine ⟨2 ^ (L - 3), two_pow_pos _, ?_⟩
  omega
theorem sum_zero_at (hd : d.ok) (hf : f.ok) (h1 : low ≤ d.e) (h2 : low ≤ f.e) (hs : d.neg ≠ f.neg) (h : d.m * 2 ^ (d.e - low).toNat = f.m * 2 ^ (f.e - low).toNat) : d.iv + f.iv = 0 := by
  have e : (d.iv + f.iv) * 2 ^ (-(low + 16384)).toNat = 0 := by
    rw [Int.add_mul, iv_scale (ok_e hd).1 h1, iv_scale (ok_e hf).1 h2, ← Int.add_mul, h, sg_sub hs (Nat.le_refl _), Nat.sub_self, sg_zero, Int.zero_mul]
  rcases Int.mul_eq_zero.1 e with h3 | h3
  · exact h3
  · exact absurd h3 (Int.pow_ne_zero (by decide))
/-- different signs, as round.sum has it -/
theorem sumP_diff (hd : d.ok) (hf : f.ok) (hd0 : d.m ≠ 0) (h1 : low ≤ d.e) (hp : low + p + 8 ≤ (bits d.m : Int) + d.e) (hs : d.neg ≠ f.neg) {Y : Nat} {lost : Bool}
    (hY : (low ≤ f.e ∧ Y = f.m * 2 ^ (f.e - low).toNat ∧ lost = false) ∨ (f.e < low ∧ (bits f.m : Int) + f.e + 2 < (bits d.m : Int) + d.e ∧ Y = f.m / 2 ^ (low - f.e).toNat ∧ lost = !decide (f.m % 2 ^ (low - f.e).toNat = 0))) :
    (d.m * 2 ^ (d.e - low).toNat < Y + (if lost then 1 else 0) → lost = false ∧ ∀ up, rndS f.neg (Y + (if lost then 1 else 0) - d.m * 2 ^ (d.e - low).toNat) low false p up = rnd 0 (d.iv + f.iv) p up) ∧
    (Y + (if lost then 1 else 0) ≤ d.m * 2 ^ (d.e - low).toNat → (d.m * 2 ^ (d.e - low).toNat - (Y + (if lost then 1 else 0)) = 0 ∧ lost = false → d.iv + f.iv = 0) ∧
      (¬ (d.m * 2 ^ (d.e - low).toNat - (Y + (if lost then 1 else 0)) = 0 ∧ lost = false) → ∀ up, rndS d.neg (d.m * 2 ^ (d.e - low).toNat - (Y + (if lost then 1 else 0))) low lost p up = rnd 0 (d.iv + f.iv) p up)) := by
  rcases hY with ⟨h2, rfl, rfl⟩ | ⟨h2, ht, rfl, rfl⟩
  · simp only [Bool.false_eq_true, if_false, Nat.add_zero, and_true, true_and]
    refine ⟨fun hlt up => ?_, fun hle => ⟨fun h0 => sum_zero_at hd hf h1 h2 hs (by omega), fun h0 up => sum_diff_at hd hf h1 h2 hs (by omega)⟩⟩
    rw [Int.add_comm]
    exact sum_diff_at hf hd h2 h1 (Ne.symm hs) hlt
  · obtain ⟨Q, hQ, hQ2⟩ := lossy_big (f := f) hd0 h1 h2 hp ht
    by_cases hF : f.m % 2 ^ (low - f.e).toNat = 0
    · rw [decide_eq_true hF]
      simp only [Bool.not_true, Bool.false_eq_true, if_false, Nat.add_zero, and_true, true_and]
      refine ⟨fun h => by omega, fun hle => ⟨fun h0 => by omega, fun h0 up => ?_⟩⟩
      obtain ⟨k, hk⟩ : ∃ k, k = (low - f.e).toNat := ⟨_, rfl⟩
      rw [← hk] at hF hQ2 ⊢
      have h := rndS_more (s := d.neg) (m := d.m * 2 ^ (d.e - low).toNat - f.m / 2 ^ k) (k := k) (F := 0) (p := p) (e := low) (up := up) (by omega) (two_pow_pos k) (fun h => absurd rfl h)
      rw [decide_eq_false (by simp), Nat.add_zero] at h
      rw [h]
      have h5 : f.m / 2 ^ k * 2 ^ k = f.m := by have := Nat.div_add_mod f.m (2 ^ k); rw [hF, Nat.add_zero, Nat.mul_comm] at this; exact this
      have h8 : d.m * 2 ^ (d.e - low).toNat * 2 ^ k = d.m * 2 ^ (d.e - f.e).toNat := shift_split (by omega)
      have h6 : (Q + (f.m / 2 ^ k + 1)) * 2 ^ k ≤ d.m * 2 ^ (d.e - low).toNat * 2 ^ k := Nat.mul_le_mul_right _ hQ2
      have h9 : f.m / 2 ^ k * 2 ^ k < (Q + (f.m / 2 ^ k + 1)) * 2 ^ k := Nat.mul_lt_mul_of_pos_right (by omega) (two_pow_pos k)
      have e1 : (d.m * 2 ^ (d.e - low).toNat - f.m / 2 ^ k) * 2 ^ k = d.m * 2 ^ (d.e - f.e).toNat - f.m * 2 ^ (f.e - f.e).toNat := by
        rw [Nat.sub_mul, h8, h5, show (f.e - f.e).toNat = 0 from by omega, Nat.pow_zero, Nat.mul_one]
      rw [e1, show low - (k : Int) = f.e from by omega]
      refine sum_diff_at hd hf (by omega) (Int.le_refl _) hs ?_
      rw [show (f.e - f.e).toNat = 0 from by omega, Nat.pow_zero, Nat.mul_one]
      rw [h5] at h9
      rw [h8] at h6
      omega
    · rw [decide_eq_false hF]
      simp only [Bool.not_false, if_true, Bool.true_eq_false, and_false, false_and, not_false_eq_true, forall_const]
      refine ⟨fun h => by omega, fun hle => ⟨fun h => h.elim, fun up => sum_diff_lost hd hf hd0 h1 h2 hp ht hs hF⟩⟩
end
end Go.Proofs.YtdlpiblgkpgplaaGreatDoor
