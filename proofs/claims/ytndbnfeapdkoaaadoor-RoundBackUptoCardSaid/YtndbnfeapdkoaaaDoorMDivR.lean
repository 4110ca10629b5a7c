/-
  Plain: a quotient's rounding does not depend on how many bits more are computed.
  Plain: Knuth's digit of a quotient is right or one too great; no program in sight.
  Walks: natural.digit.
  Walks: natural.guess.
-/
import Derived.Test.YtndbnfeapdkoaaaDoorMRndP
import Derived.Test.YtndbnfeapdkoaaaDoorMSumH
section
namespace Go.Proofs.YtndbnfeapdkoaaaDoor

theorem bits_quo {a b : Nat} (hb : b ≠ 0) (k : Nat) (h : bits b + k ≤ bits a) (hk : 0 < k) : k ≤ bits (a / b) := by
  have ha : a ≠ 0 := fun e => by subst e; rw [bits_zero] at h; omega
  have h1 := two_pow_le_of_bits ha
  have h2 := lt_two_pow_bits b
  have h3 : 2 ^ (k - 1) * b ≤ a := by
    refine Nat.le_trans ?_ h1
    calc 2 ^ (k - 1) * b ≤ 2 ^ (k - 1) * 2 ^ bits b := Nat.mul_le_mul_left _ (Nat.le_of_lt h2)
      _ = 2 ^ (k - 1 + bits b) := by rw [Nat.pow_add]
      _ ≤ 2 ^ (bits a - 1) := Nat.pow_le_pow_right (by decide) (by omega)
  have h4 := (Nat.le_div_iff_mul_le (by omega : 0 < b)).2 h3
  have h5 := lt_bits.2 h4
  omega
/-- a quotient m / n 2^e, rounded, K more bits computed -/
def quoR (s : Bool) (m n : Nat) (e : Int) (p : Nat) (up : Bool) (K : Nat) : Option Dy := rndS s (m * 2 ^ K / n) (e - K) (decide (0 < bits (m * 2 ^ K % n))) p up
theorem quo_more {m n K d : Nat} (hn : n ≠ 0) : m * 2 ^ (K + d) / n / 2 ^ d = m * 2 ^ K / n ∧ ((0 < bits (m * 2 ^ (K + d) % n) ∨ m * 2 ^ (K + d) / n % 2 ^ d ≠ 0) ↔ 0 < bits (m * 2 ^ K % n)) := by
  have hp := two_pow_pos d
  have e1 : m * 2 ^ (K + d) / n / 2 ^ d = m * 2 ^ K / n := by
    rw [Nat.div_div_eq_div_mul, Nat.pow_add, ← Nat.mul_assoc, Nat.mul_div_mul_right _ _ hp]
  refine ⟨e1, ?_⟩
  have b0 (x : Nat) : 0 < bits x ↔ x ≠ 0 := by
    constructor
    · intro h h0; subst h0; rw [bits_zero] at h; omega
    · exact bits_pos
  rw [b0, b0]
  have h1 := Nat.div_add_mod (m * 2 ^ (K + d)) n
  have h2 := Nat.div_add_mod (m * 2 ^ (K + d) / n) (2 ^ d)
  rw [e1] at h2
  have h3 := Nat.div_add_mod (m * 2 ^ K) n
  have h4 : m * 2 ^ (K + d) = m * 2 ^ K * 2 ^ d := by rw [Nat.pow_add, Nat.mul_assoc]
  have h5 := Nat.mod_lt (m * 2 ^ K) (Nat.pos_of_ne_zero hn)
  generalize m * 2 ^ (K + d) / n % 2 ^ d = f at *
  generalize m * 2 ^ (K + d) % n = r at *
  generalize m * 2 ^ (K + d) / n = Q at *
  generalize m * 2 ^ K % n = r0 at *
  generalize m * 2 ^ K / n = q at *
  have e2 : n * f + r = r0 * 2 ^ d := by
    have e3 : n * Q = n * (2 ^ d * q) + n * f := by rw [← Nat.mul_add, h2]
    have e4 : m * 2 ^ K * 2 ^ d = n * q * 2 ^ d + r0 * 2 ^ d := by rw [← Nat.add_mul, h3]
    have e5 : n * (2 ^ d * q) = n * q * 2 ^ d := by rw [Nat.mul_comm (2 ^ d), Nat.mul_assoc]
    omega
  constructor
  · intro h h0
    rw [h0, Nat.zero_mul] at e2
    have h6 : n * f = 0 := by omega
    rcases Nat.mul_eq_zero.1 h6 with h7 | h7
    · exact hn h7
    · rcases h with h | h
      · omega
      · exact h h7
  · intro h
    rcases Nat.eq_zero_or_pos r with h6 | h6
    · refine .inr fun h7 => ?_
      rw [h6, h7, Nat.mul_zero] at e2
      rcases Nat.mul_eq_zero.1 e2.symm with h8 | h8
      · exact h h8
      · omega
    · exact .inl (by omega)
theorem quoR_more {s : Bool} {m n p K d : Nat} {e : Int} {up : Bool} (hm : m ≠ 0) (hn : n ≠ 0) (hp : 0 < p) (hK : p + 1 + bits n ≤ bits m + K) : quoR s m n e p up (K + d) = quoR s m n e p up K := by
  have hpd := two_pow_pos d
  obtain ⟨h1, h2⟩ := quo_more (m := m) (K := K) (d := d) hn
  have hb : p < bits (m * 2 ^ K / n) := by
    have := bits_quo hn (p + 1) (a := m * 2 ^ K) (by rw [bits_mul_pow hm]; omega) (by omega)
    omega
  have hq0 : m * 2 ^ K / n ≠ 0 := fun h => by rw [h, bits_zero] at hb; omega
  have h3 := Nat.div_add_mod (m * 2 ^ (K + d) / n) (2 ^ d)
  rw [h1] at h3
  have hf := Nat.mod_lt (m * 2 ^ (K + d) / n) hpd
  have hmore : (decide (0 < bits (m * 2 ^ (K + d) % n)) || decide (m * 2 ^ (K + d) / n % 2 ^ d ≠ 0)) = decide (0 < bits (m * 2 ^ K % n)) := by
    rw [← Bool.decide_or]
    exact decide_eq_decide.2 h2
  unfold quoR rndS sgnR
  have key (u : Bool) : rcut (m * 2 ^ (K + d) / n) (e - (K + d : Nat)) (decide (0 < bits (m * 2 ^ (K + d) % n))) p u = rcut (m * 2 ^ K / n) (e - K) (decide (0 < bits (m * 2 ^ K % n))) p u := by
    have := rcut_more (m := m * 2 ^ K / n) (k := d) (f := m * 2 ^ (K + d) / n % 2 ^ d) (p := p) (e := e - K) (more := decide (0 < bits (m * 2 ^ (K + d) % n))) (up := u) hq0 hf (fun _ => hb)
    rw [hmore, Nat.mul_comm (m * 2 ^ K / n), h3] at this
    rw [this]
    congr 1
    omega
  rw [key]
end Go.Proofs.YtndbnfeapdkoaaaDoor
end

section
namespace Go.Proofs.YtndbnfeapdkoaaaDoor

section
variable {U V T x3 up P v1 w vp q r : Nat}
/-- the digit of the upper limbs is not too small -/
theorem knu_init (hU : U = (T * 4294967296 + x3) * P + up) (h3 : x3 < 4294967296) (hup : up < P) (hV : V = (v1 * 4294967296 + w) * P + vp) (hv : 0 < v1) : U / V ≤ T / v1 := by
  have hP : 0 < P := by omega
  have h1 : v1 * (4294967296 * P) ≤ V := by
    rw [hV, Nat.add_mul, ← Nat.mul_assoc]
    have := Nat.zero_le (w * P)
    omega
  have hpos : 0 < v1 * (4294967296 * P) := Nat.mul_pos hv (by omega)
  have h2 : U < (T + 1) * (4294967296 * P) := by
    rw [hU]
    have h4 : (T * 4294967296 + x3) * P + P ≤ (T * 4294967296 + 4294967296) * P := by
      have := Nat.mul_le_mul_right P (show T * 4294967296 + x3 + 1 ≤ T * 4294967296 + 4294967296 by omega)
      rw [Nat.add_mul _ 1 P] at this
      omega
    have h5 : (T + 1) * (4294967296 * P) = (T * 4294967296 + 4294967296) * P := by
      rw [← Nat.mul_assoc, Nat.add_mul, Nat.one_mul]
    rw [h5]
    omega
  have h6 : U / (4294967296 * P) ≤ T := Nat.le_of_lt_succ ((Nat.div_lt_iff_lt_mul (by omega)).2 h2)
  calc U / V ≤ U / (v1 * (4294967296 * P)) := Nat.div_le_div_left h1 hpos
    _ = U / (4294967296 * P) / v1 := by rw [Nat.mul_comm v1, Nat.div_div_eq_div_mul]
    _ ≤ T / v1 := Nat.div_le_div_right h6
theorem knu_mul (q T r v1 w : Nat) (h : q * v1 + r = T) : q * (v1 * 4294967296 + w) + r * 4294967296 = T * 4294967296 + q * w := by
  rw [← h, Nat.mul_add, Nat.add_mul, Nat.mul_assoc]; omega
/-- a digit that is found too great -/
theorem knu_step (hU : U = (T * 4294967296 + x3) * P + up) (hup : up < P) (hV : V = (v1 * 4294967296 + w) * P + vp) (hv : 0 < v1) (h : q * v1 + r = T) (hgt : r * 4294967296 + x3 < q * w) : U / V < q := by
  have hP : 0 < P := by omega
  have hm := knu_mul q T r v1 w h
  have h1 : T * 4294967296 + x3 + 1 ≤ q * (v1 * 4294967296 + w) := by omega
  have h2 := Nat.mul_le_mul_right P h1
  rw [Nat.add_mul _ 1 P, Nat.one_mul] at h2
  have h3 : q * (v1 * 4294967296 + w) * P ≤ q * V := by
    rw [hV, Nat.mul_assoc]; exact Nat.mul_le_mul_left q (by omega)
  have hVp : 0 < V := by
    rw [hV]
    have : 0 < (v1 * 4294967296 + w) * P := Nat.mul_pos (by omega) hP
    omega
  exact (Nat.div_lt_iff_lt_mul hVp).2 (by omega)
/-- a digit that passes is at most one too great -/
theorem knu_end (hU : U = (T * 4294967296 + x3) * P + up) (hV : V = (v1 * 4294967296 + w) * P + vp) (hvp : vp < P) (hv : 0 < v1) (hq : q ≤ 4294967296) (h : q * v1 + r = T) (hle : q * w ≤ r * 4294967296 + x3) : q ≤ U / V + 1 := by
  have hP : 0 < P := by omega
  have hm := knu_mul q T r v1 w h
  have h1 : q * (v1 * 4294967296 + w) ≤ T * 4294967296 + x3 := by omega
  have h2 := Nat.mul_le_mul_right P h1
  have hVp : 4294967296 * P ≤ V := by
    rw [hV]
    have := Nat.mul_le_mul_right P (show 4294967296 ≤ v1 * 4294967296 + w by omega)
    omega
  have h3 : q * vp ≤ 4294967296 * P := Nat.mul_le_mul hq (Nat.le_of_lt hvp)
  have h4 : q * V = q * (v1 * 4294967296 + w) * P + q * vp := by rw [hV, Nat.mul_add, Nat.mul_assoc]
  have h5 : q * V ≤ U + V := by omega
  have h6 : (q - 1) * V ≤ U := by rw [Nat.sub_mul, Nat.one_mul]; omega
  have := (Nat.le_div_iff_mul_le (by omega : 0 < V)).2 h6
  omega
/-- .. or its rest is too great to be tried -/
theorem knu_over (hU : U = (T * 4294967296 + x3) * P + up) (hV : V = (v1 * 4294967296 + w) * P + vp) (hw : w < 4294967296) (hvp : vp < P) (hv : 0 < v1) (hq : q ≤ 4294967296) (h : q * v1 + r = T) (hr : 4294967296 ≤ r) : q ≤ U / V := by
  have hP : 0 < P := by omega
  have hVu : V ≤ (v1 + 1) * (4294967296 * P) := by
    rw [hV, ← Nat.mul_assoc, Nat.add_mul v1, Nat.one_mul]
    have := Nat.mul_le_mul_right P (show v1 * 4294967296 + w + 1 ≤ v1 * 4294967296 + 4294967296 by omega)
    rw [Nat.add_mul _ 1 P, Nat.one_mul] at this
    omega
  have hVp : 0 < V := by
    rw [hV]
    have : 0 < (v1 * 4294967296 + w) * P := Nat.mul_pos (by omega) hP
    omega
  refine (Nat.le_div_iff_mul_le hVp).2 ?_
  have h1 : q * V ≤ q * (v1 + 1) * (4294967296 * P) := by rw [Nat.mul_assoc]; exact Nat.mul_le_mul_left q hVu
  have h2 : q * (v1 + 1) ≤ T := by rw [Nat.mul_add, Nat.mul_one]; omega
  have h3 := Nat.mul_le_mul_right (4294967296 * P) h2
  have h4 : T * (4294967296 * P) ≤ U := by
    rw [hU, ← Nat.mul_assoc, Nat.add_mul]
    have := Nat.zero_le (x3 * P)
    omega
  omega
end
end Go.Proofs.YtndbnfeapdkoaaaDoor
end

section
namespace Go.Proofs.YtndbnfeapdkoaaaDoor
open Go.RowKit

/-- the digit q with its rest r after at most n corrections -/
def digF (x3 v1 w1 : Nat) : Nat → Nat → Nat → Nat
  | 0, q, _ => q
  | n + 1, q, r => if r < 4294967296 ∧ r * 4294967296 + x3 < q * w1 then digF x3 v1 w1 n (q - 1) (r + v1) else q
theorem digF_end {x3 v1 w1 n q r : Nat} (h : ¬ (r < 4294967296 ∧ r * 4294967296 + x3 < q * w1)) : digF x3 v1 w1 n q r = q := by
  cases n with
  | zero => rfl
  | succ n => rw [digF, if_neg h]
/-- what the corrected digit is: not too small, and it passes -/
theorem digF_spec {x3 v1 w1 L T : Nat} (hst : ∀ q r, q * v1 + r = T → r * 4294967296 + x3 < q * w1 → L < q) (n : Nat) : ∀ q r, q ≤ n → q * v1 + r = T → L ≤ q →
    L ≤ digF x3 v1 w1 n q r ∧ digF x3 v1 w1 n q r ≤ q ∧ ∃ s, digF x3 v1 w1 n q r * v1 + s = T ∧ (4294967296 ≤ s ∨ digF x3 v1 w1 n q r * w1 ≤ s * 4294967296 + x3) := by
  induction n with
  | zero =>
    intro q r h1 h2 h3
    have h0 : q = 0 := by omega
    subst h0
    exact ⟨h3, Nat.le_refl _, r, h2, .inr (by rw [digF, Nat.zero_mul]; omega)⟩
  | succ n ih =>
    intro q r h1 h2 h3
    by_cases h : r < 4294967296 ∧ r * 4294967296 + x3 < q * w1
    · rw [digF, if_pos h]
      have h4 := hst q r h2 h.2
      have h5 : (q - 1) * v1 + (r + v1) = T := by
        rw [Nat.sub_mul, Nat.one_mul]
        have : v1 ≤ q * v1 := Nat.le_mul_of_pos_left v1 (by omega)
        omega
      obtain ⟨a, b, s, c, d⟩ := ih (q - 1) (r + v1) (by omega) h5 (by omega)
      exact ⟨a, by omega, s, c, d⟩
    · rw [digF_end h]
      exact ⟨h3, Nat.le_refl _, r, h2, by omega⟩
set_option maxRecDepth 100000 in
set_option maxHeartbeats 2000000 in
theorem digit_any (q0 r0 x3 v1 w1 : Nat) (w : World) (hq : q0 ≤ 4294967295) (hr : r0 < 8589934592) (h3 : x3 < 4294967296) (hv : v1 < 4294967296) (hw : w1 < 4294967296) :
    Calls Tryd.prog 100 #[.int .u64 (q0 : Nat), .int .u64 (r0 : Nat), .int .u32 (x3 : Nat), .int .u32 (v1 : Nat), .int .u32 (w1 : Nat)] w fun e w' => e = .returned (.int .u64 (digF x3 v1 w1 q0 q0 r0 : Nat)) ∧ w = w' := by
  obtain ⟨D, hD⟩ : ∃ D, D = digF x3 v1 w1 q0 q0 r0 := ⟨_, rfl⟩
  rw [← hD]
  have HD := Lib.hid hD
  clear hD
  go_enter Tryd.func100, Tryd.ntmps100
  go_wp2_with fail
  go_loopw [0, 1] (fun qv rv wr => ∃ n q r : Nat, qv = .int .u64 (q : Nat) ∧ rv = .int .u64 (r : Nat) ∧ q ≤ 4294967295 ∧ r < 8589934592 ∧ q ≤ n ∧ D = digF x3 v1 w1 n q r ∧ w = wr) (fun qv _ _ => (intOf qv).toNat)
  case atStart => exact ⟨q0, q0, r0, rfl, rfl, hq, hr, Nat.le_refl _, HD.out, rfl⟩
  case round =>
    obtain ⟨n, q, r, rfl, rfl, hq1, hr1, hqn, hT, rfl⟩ := hrel
    have HT2 := Lib.hid hT
    clear hT HD
    by_cases hrb : r < 4294967296
    · have hri : (r : Int) < 4294967296 := by omega
      obtain ⟨sm, hsm⟩ : ∃ sm, sm = x3 + 4294967296 * r := ⟨_, rfl⟩
      have hor := join64 h3 hrb
      rw [← hsm] at hor
      have HSM := Lib.hid hsm
      clear hsm
      have hp1 : (q : Int) * w1 ≤ 18446744065119617025 := by
        have : q * w1 ≤ 4294967295 * 4294967295 := Nat.mul_le_mul hq1 (by omega)
        have : ((q * w1 : Nat) : Int) ≤ ((4294967295 * 4294967295 : Nat) : Int) := by exact_mod_cast this
        simpa using this
      have hp0 : 0 ≤ (q : Int) * w1 := Int.mul_nonneg (by omega) (by omega)
      by_cases hg : sm < q * w1
      · have hgi : (sm : Int) < (q : Int) * w1 := by
          have : (sm : Int) < ((q * w1 : Nat) : Int) := by exact_mod_cast hg
          rwa [Int.natCast_mul] at this
        have hq0 : 1 ≤ q := by
          rcases Nat.eq_zero_or_pos q with h | h
          · subst h; simp at hg
          · exact h
        obtain ⟨k, rfl⟩ : ∃ k, n = k + 1 := ⟨n - 1, by omega⟩
        have HG := Lib.hid (show D = digF x3 v1 w1 k (q - 1) (r + v1) by
          have e := HT2.out
          rw [digF, if_pos ⟨hrb, by have := HSM.out; omega⟩] at e
          exact e)
        clear hg hrb
        go_wp2_with fail
        go_roundw
        case rel => exact ⟨k, q - 1, r + v1, by go_num, by go_num, by omega, by omega, by omega, HG.out, by first | rfl | trivial⟩
        case measure => simp [intOf]; omega
      · have hgi : ¬ (sm : Int) < (q : Int) * w1 := by
          intro h
          have : (sm : Int) < ((q * w1 : Nat) : Int) := by rwa [Int.natCast_mul]
          exact hg (by exact_mod_cast this)
        have HG := Lib.hid (show D = q by
          rw [HT2.out]; exact digF_end fun h => hg (by have := HSM.out; omega))
        clear hg hrb
        go_wp2_with fail
        go_ret
        exact ⟨ret_int (by rw [HG.out]), rfl⟩
    · have hri : ¬ (r : Int) < 4294967296 := by omega
      have HG := Lib.hid (show D = q by rw [HT2.out]; exact digF_end fun h => hrb h.1)
      clear hrb hr1
      go_wp2_with fail
      go_ret
      exact ⟨ret_int (by rw [HG.out]), rfl⟩
end Go.Proofs.YtndbnfeapdkoaaaDoor
end

section
namespace Go.Proofs.YtndbnfeapdkoaaaDoor
open Go.RowKit

/-- the guessed digit -/
def guessF (top next x3 v1 w1 : Nat) : Nat :=
  if v1 ≤ top then digF x3 v1 w1 4294967295 4294967295 ((top - v1) * 4294967296 + next + v1)
  else digF x3 v1 w1 ((top * 4294967296 + next) / v1) ((top * 4294967296 + next) / v1) ((top * 4294967296 + next) % v1)
set_option maxRecDepth 100000 in
set_option maxHeartbeats 2000000 in
theorem guess_any (top next x3 v1 w1 : Nat) (w : World) (ht : top ≤ v1) (hn : next < 4294967296) (h3 : x3 < 4294967296) (hv : v1 < 4294967296) (hv0 : 0 < v1) (hw : w1 < 4294967296) :
    Calls Tryd.prog 93 #[.int .u32 (top : Nat), .int .u32 (next : Nat), .int .u32 (x3 : Nat), .int .u32 (v1 : Nat), .int .u32 (w1 : Nat)] w fun e w' => e = .returned (.int .u64 (guessF top next x3 v1 w1 : Nat)) ∧ ∃ n, w' = w.drewN n := by
  by_cases he : top = v1
  · have HD := Lib.hid (digit_any 4294967295 (next + v1) x3 v1 w1 w (by decide) (by omega) h3 hv hw)
    have HG := Lib.hid (show guessF top next x3 v1 w1 = digF x3 v1 w1 4294967295 4294967295 (next + v1) by
      unfold guessF; rw [if_pos (by omega), show (top - v1) * 4294967296 + next + v1 = next + v1 by omega])
    have hge : (v1 : Int) ≤ (top : Int) := by omega
    have hsub : (top : Int) - v1 = 0 := by omega
    go_enter Tryd.func93, Tryd.ntmps93
    go_wp2_with fail
    have hD := HD.out
    rw [show (((4294967295 : Nat) : Nat) : Int) = 4294967295 from rfl, Int.natCast_add] at hD
    refine hD.mono ?_
    rintro e w' ⟨rfl, rfl⟩
    go_wp2_with fail
    go_ret
    exact ⟨ret_int (by rw [HG.out]), 0, rfl⟩
  · have hlt : top < v1 := by omega
    have hq : (top * 4294967296 + next) / v1 < 4294967296 := by
      rw [Nat.div_lt_iff_lt_mul hv0]
      have : (top + 1) * 4294967296 ≤ v1 * 4294967296 := Nat.mul_le_mul_right _ hlt
      rw [Nat.mul_comm 4294967296]
      omega
    have hm := Nat.mod_lt (top * 4294967296 + next) hv0
    have HD := Lib.hid (fun W => digit_any ((top * 4294967296 + next) / v1) ((top * 4294967296 + next) % v1) x3 v1 w1 W (by omega) (by omega) h3 hv hw)
    have HG := Lib.hid (show guessF top next x3 v1 w1 = digF x3 v1 w1 ((top * 4294967296 + next) / v1) ((top * 4294967296 + next) / v1) ((top * 4294967296 + next) % v1) by
      unfold guessF; rw [if_neg (by omega)])
    have hor := join64 hn (show top < 4294967296 by omega)
    have hge : ¬ (v1 : Int) ≤ (top : Int) := by omega
    have hwr : ((top : Int) * 4294967296) % 18446744073709551616 = (top : Int) * 4294967296 := by omega
    have hsum : next + 4294967296 * top = top * 4294967296 + next := by omega
    rw [hsum] at hor
    have hTl : top * 4294967296 + next < 18446744073709551616 := by omega
    generalize guessF top next x3 v1 w1 = G at *
    generalize top * 4294967296 + next = T at *
    clear hq hm he hsum
    have HDI := Lib.hid (fun W => show Calls Tryd.prog 100 #[.int .u64 (IntKind.u64.wrap ((T : Int) / v1)), .int .u64 ((T : Int) % v1), .int .u32 (x3 : Nat), .int .u32 (v1 : Nat), .int .u32 (w1 : Nat)] W (fun e w' => e = .returned (.int .u64 (G : Nat)) ∧ w' = W) by
      have h1 : T / v1 ≤ T := Nat.div_le_self _ _
      have h2 : ((T / v1 : Nat) : Int) ≤ (T : Int) := by exact_mod_cast h1
      have hwq : IntKind.u64.wrap ((T : Int) / v1) = (T : Int) / v1 := by
        rw [IntKind.wrap_u64, ← Int.natCast_ediv]
        generalize T / v1 = z at *
        exact Int.emod_eq_of_lt (by omega) (by omega)
      rw [hwq]
      have := HD.out W
      rw [Int.natCast_ediv, Int.natCast_emod, ← HG.out] at this
      exact this.mono fun e w' ⟨h1, h2⟩ => ⟨h1, h2.symm⟩)
    clear HD HG
    have hy0 : (v1 : Int) ≠ 0 := by omega
    have hy1 : ((v1 : Int) == 0) = false := beq_eq_false_iff_ne.2 hy0
    have hy2 : ((v1 : Int) != 0) = true := by rw [bne, hy1]; rfl
    go_enter Tryd.func93, Tryd.ntmps93
    go_wp2_with fail
    go_quiet ((go_at_call 100; exact Calls.quiet_of_same (HDI.out _)))
    go_wp2_with fail
    go_ret
    exact ⟨rfl, _, rfl⟩
end Go.Proofs.YtndbnfeapdkoaaaDoor
end
