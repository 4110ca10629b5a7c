/-
  Plain arithmetic of dyadic numbers, no program in sight.
-/
import Derived.Test.YtbhmhfnfceakoaaGreatDoorMNum
import Derived.Lib.BitFns
import Derived.Lib.TrailingZeros
section
namespace Go.Proofs.YtbhmhfnfceakoaaGreatDoor

def tz (n : Nat) : Nat := if n = 0 then 0 else if n % 2 = 1 then 0 else tz (n / 2) + 1
termination_by n
decreasing_by omega

theorem tz_odd {n : Nat} (h : n % 2 = 1) : tz n = 0 := by rw [tz]; split <;> simp_all
theorem tz_even {n : Nat} (h0 : n ≠ 0) (h : n % 2 = 0) : tz n = tz (n / 2) + 1 := by rw [tz]; rw [if_neg h0, if_neg (by omega)]
def oddp (n : Nat) : Nat := n / 2 ^ tz n

theorem tz_spec (n : Nat) (h : n ≠ 0) : ∃ m, m % 2 = 1 ∧ n = m * 2 ^ tz n := by
  induction n using Nat.strongRecOn with
  | _ n ih =>
    by_cases h1 : n % 2 = 1
    · exact ⟨n, h1, by rw [tz_odd h1]; simp⟩
    · obtain ⟨m, hm, e⟩ := ih (n / 2) (by omega) (by omega)
      refine ⟨m, hm, ?_⟩
      rw [tz_even h (by omega), Nat.pow_succ, ← Nat.mul_assoc, ← e]; omega
theorem oddp_spec {n : Nat} (h : n ≠ 0) : oddp n % 2 = 1 ∧ n = oddp n * 2 ^ tz n := by
  obtain ⟨m, hm, e⟩ := tz_spec n h
  have : oddp n = m := by
    unfold oddp
    conv => lhs; lhs; rw [e]
    exact Nat.mul_div_cancel _ (Nat.pow_pos (by decide))
  rw [this]; exact ⟨hm, e⟩
theorem odd_pow_unique {m m' a b : Nat} (hm : m % 2 = 1) (hm' : m' % 2 = 1) (h : m * 2 ^ a = m' * 2 ^ b) : m = m' ∧ a = b := by
  induction a generalizing b with
  | zero =>
    cases b with
    | zero => simpa using h
    | succ b =>
      exfalso
      rw [Nat.pow_succ, ← Nat.mul_assoc] at h
      simp at h; omega
  | succ a ih =>
    cases b with
    | zero =>
      exfalso
      rw [Nat.pow_succ, ← Nat.mul_assoc] at h
      simp at h; omega
    | succ b =>
      rw [Nat.pow_succ, Nat.pow_succ, ← Nat.mul_assoc, ← Nat.mul_assoc] at h
      have := ih (b := b) (by omega)
      exact ⟨this.1, by omega⟩
theorem tz_mul_pow {m : Nat} (hm : m % 2 = 1) (k : Nat) : tz (m * 2 ^ k) = k := by
  have hne : m * 2 ^ k ≠ 0 := Nat.mul_ne_zero (by omega) (Nat.ne_of_gt (Nat.pow_pos (by decide)))
  obtain ⟨h1, h2⟩ := oddp_spec hne
  exact (odd_pow_unique hm h1 h2).2.symm
theorem oddp_mul_pow {m : Nat} (hm : m % 2 = 1) (k : Nat) : oddp (m * 2 ^ k) = m := by
  have hne : m * 2 ^ k ≠ 0 := Nat.mul_ne_zero (by omega) (Nat.ne_of_gt (Nat.pow_pos (by decide)))
  obtain ⟨h1, h2⟩ := oddp_spec hne
  exact (odd_pow_unique hm h1 h2).1.symm
theorem oddp_odd {m : Nat} (hm : m % 2 = 1) : oddp m = m := by simpa using oddp_mul_pow hm 0
theorem oddp_ne_zero {n : Nat} (h : n ≠ 0) : oddp n ≠ 0 := by have := (oddp_spec h).1; omega
theorem bits_oddp {n : Nat} (h : n ≠ 0) : bits n = bits (oddp n) + tz n := by
  conv => lhs; rw [(oddp_spec h).2]
  exact bits_mul_pow (oddp_ne_zero h)
theorem tz_shift {n : Nat} (h : n ≠ 0) (k : Nat) : tz (n * 2 ^ k) = tz n + k := by
  have h1 := oddp_spec h
  conv => lhs; rw [h1.2, Nat.mul_assoc, ← Nat.pow_add]
  exact tz_mul_pow h1.1 _
theorem oddp_shift {n : Nat} (h : n ≠ 0) (k : Nat) : oddp (n * 2 ^ k) = oddp n := by
  have h1 := oddp_spec h
  conv => lhs; rw [h1.2, Nat.mul_assoc, ← Nat.pow_add]
  exact oddp_mul_pow h1.1 _
structure Dy where
  neg : Bool
  m : Nat
  e : Int
deriving DecidableEq

def Dy.zero : Dy := ⟨false, 0, 0⟩
def Dy.ok (d : Dy) : Prop :=
  (d.m = 0 ∧ d.neg = false ∧ d.e = 0) ∨ (d.m % 2 = 1 ∧ bits d.m ≤ 4096 ∧ -16384 ≤ d.e ∧ d.e ≤ 16384 ∧ bits d.m + d.e ≤ 16384)
instance (d : Dy) : Decidable d.ok := by unfold Dy.ok; exact inferInstance
def sg (neg : Bool) (n : Nat) : Int := if neg then -(n : Int) else n
def Dy.iv (d : Dy) : Int := sg d.neg (d.m * 2 ^ (d.e + 16384).toNat)
theorem Dy.ok_zero : Dy.zero.ok := .inl ⟨rfl, rfl, rfl⟩
theorem sg_inj {s t : Bool} {m n : Nat} (hm : m ≠ 0) (h : sg s m = sg t n) : s = t ∧ m = n := by
  unfold sg at h
  cases s <;> cases t <;> simp at h ⊢ <;> omega
theorem sg_zero (s : Bool) : sg s 0 = 0 := by unfold sg; cases s <;> rfl
theorem sg_eq_zero {s : Bool} {n : Nat} : sg s n = 0 ↔ n = 0 := by unfold sg; cases s <;> simp
theorem Dy.iv_zero : Dy.zero.iv = 0 := by
  unfold Dy.iv Dy.zero; simp only [Nat.zero_mul, sg_zero]
theorem Dy.iv_eq_zero {d : Dy} : d.iv = 0 ↔ d.m = 0 := by
  unfold Dy.iv; rw [sg_eq_zero]
  constructor
  · intro h
    rcases Nat.mul_eq_zero.1 h with h | h
    · exact h
    exact absurd h (Nat.ne_of_gt (Nat.pow_pos (by decide)))
  intro h; rw [h]; simp
theorem Dy.eq_zero {d : Dy} (h : d.ok) (h0 : d.m = 0) : d = Dy.zero := by
  rcases h with ⟨h1, h2, h3⟩ | ⟨h1, _⟩
  · cases d; simp_all [Dy.zero]
  omega
theorem Dy.iv_inj {a b : Dy} (ha : a.ok) (hb : b.ok) (h : a.iv = b.iv) : a = b := by
  by_cases h0 : a.m = 0
  · have hb0 : b.m = 0 := by rw [← Dy.iv_eq_zero, ← h, Dy.iv_eq_zero]; exact h0
    rw [a.eq_zero ha h0, b.eq_zero hb hb0]
  have hb0 : b.m ≠ 0 := by rw [Ne, ← Dy.iv_eq_zero, ← h, Dy.iv_eq_zero]; exact h0
  rcases ha with ⟨h1, _⟩ | ⟨a1, a2, a3, a4, a5⟩
  · exact absurd h1 h0
  rcases hb with ⟨h1, _⟩ | ⟨b1, b2, b3, b4, b5⟩
  · exact absurd h1 hb0
  obtain ⟨e1, e2⟩ := sg_inj (Nat.mul_ne_zero h0 (Nat.ne_of_gt (Nat.pow_pos (by decide)))) h
  obtain ⟨e3, e4⟩ := odd_pow_unique a1 b1 e2
  cases a; cases b; simp_all; omega
def canon (neg : Bool) (n : Nat) (e : Int) : Dy := if n = 0 then .zero else ⟨neg, oddp n, e + tz n⟩
theorem canon_zero (neg : Bool) (e : Int) : canon neg 0 e = .zero := rfl
theorem canon_shift (neg : Bool) (n k : Nat) (e : Int) : canon neg (n * 2 ^ k) e = canon neg n (e + k) := by
  unfold canon
  by_cases h : n = 0
  · subst h; simp
  rw [if_neg h, if_neg (Nat.mul_ne_zero h (Nat.ne_of_gt (Nat.pow_pos (by decide)))), oddp_shift h, tz_shift h]
  congr 1; omega
theorem canon_ok {d : Dy} (h : d.ok) : canon d.neg d.m d.e = d := by
  unfold canon
  split
  · next h0 => exact (d.eq_zero h h0).symm
  next h0 =>
  rcases h with ⟨h1, _⟩ | ⟨h1, _⟩
  · exact absurd h1 h0
  rw [oddp_odd h1, tz_odd h1]; cases d; simp
theorem canon_iv (neg : Bool) (n : Nat) (e : Int) (h : -16384 ≤ e) : (canon neg n e).iv = sg neg (n * 2 ^ (e + 16384).toNat) := by
  unfold canon
  split
  · next h0 => subst h0; rw [Dy.iv_zero]; simp [sg_zero]
  next h0 =>
  unfold Dy.iv
  simp only []
  congr 1
  conv => rhs; rw [(oddp_spec h0).2]
  rw [Nat.mul_assoc, ← Nat.pow_add]
  congr 2; omega
def inr (d : Dy) : Prop := d.m = 0 ∨ (bits d.m ≤ 4096 ∧ -16384 ≤ d.e ∧ d.e ≤ 16384 ∧ bits d.m + d.e ≤ 16384)
instance (d : Dy) : Decidable (inr d) := by unfold inr; exact inferInstance
theorem canon_ok_iff (neg : Bool) (n : Nat) (e : Int) : (canon neg n e).ok ↔ inr (canon neg n e) := by
  unfold canon
  split
  · exact ⟨fun _ => .inl rfl, fun _ => Dy.ok_zero⟩
  next h0 =>
  have h1 := oddp_spec h0
  unfold Dy.ok inr
  simp only []
  constructor
  · rintro (⟨h, _⟩ | ⟨_, h⟩)
    · exact absurd h (oddp_ne_zero h0)
    exact .inr h
  rintro (h | h)
  · exact absurd h (oddp_ne_zero h0)
  exact .inr ⟨h1.1, h⟩
end Go.Proofs.YtbhmhfnfceakoaaGreatDoor
end
namespace Go.Proofs.YtbhmhfnfceakoaaGreatDoor
open Go.RowKit
theorem bits_half {x : Nat} (h : x ≠ 0) : bits x = 1 + bits (x / 2) := by
  apply bits_unique
  · have := lt_two_pow_bits (x / 2)
    rw [Nat.pow_add]; omega
  right
  by_cases h2 : x / 2 = 0
  · rw [h2]; simp [bits_zero]; omega
  have := two_pow_le_of_bits h2
  have h3 := bits_pos h2
  rw [show 1 + bits (x / 2) - 1 = (bits (x / 2) - 1) + 1 from by omega, Nat.pow_succ]; omega
theorem bitLenAux_eq : ∀ (f x : Nat), x < 2 ^ f → Lib.bitLenAux f x = bits x
  | 0, x, h => by
    have : x = 0 := by simpa using h
    subst this; rfl
  | f + 1, x, h => by
    unfold Lib.bitLenAux
    by_cases h0 : x = 0
    · subst h0; rfl
    · rw [if_neg h0, bits_half h0, bitLenAux_eq f (x / 2) (by rw [Nat.pow_succ] at h; omega)]
theorem bitLen_eq {x : Nat} (h : x < 4294967296) : Lib.bitLen x = bits x :=
  bitLenAux_eq 64 x (Nat.lt_of_lt_of_le (show x < 2 ^ 32 from h) (Nat.pow_le_pow_right (by decide) (by decide)))

theorem tab_at (b : Int) (h0 : 0 ≤ b) (h1 : b ≤ 255) (h : b.toNat < Lib.len8tab.size) : ((Lib.len8tab[b.toNat]).toNat : Int) = (Lib.bitLen b.toNat : Int) := by
  rw [← Lib.len8_of b h0 h1]
  unfold Lib.len8
  rw [ByteArray.getElem?_lt' _ _ h, Option.getD_some]
theorem len_wrap (n k : Int) (h0 : 0 ≤ n) (h1 : n ≤ 8) (k0 : 0 ≤ k) (k1 : k ≤ 24) : wrap64 (k + wrap64 n) = k + n := by
  rw [IntWalk.wrap64_in n ⟨by omega, by omega⟩, IntWalk.wrap64_in (k + n) ⟨by omega, by omega⟩]
theorem len_wrap0 (n : Int) (h0 : 0 ≤ n) (h1 : n ≤ 8) : wrap64 (wrap64 n) = n := by
  rw [IntWalk.wrap64_in n ⟨by omega, by omega⟩, IntWalk.wrap64_in n ⟨by omega, by omega⟩]
set_option maxHeartbeats 4000000 in
set_option maxRecDepth 100000 in
theorem len32_raw (x : Int) (w : World) (h0 : 0 ≤ x) (h1 : x ≤ 4294967295) :
    Calls Tryz.prog 185 #[.int .u32 x] w fun e w' => e = .returned (.int .i64 (Lib.bitLen x.toNat)) ∧ w' = w := by
  have hsz : (Lib.len8tab.size : Int) = 256 := by rw [Lib.len8tab_size]; rfl
  go_enter Tryz.func185, Tryz.ntmps185
  go_wp2
  all_goals (go_ret; refine ⟨congrArg Ending.returned (congrArg (Value.int IntKind.i64) ?_), rfl⟩)
  · have l := Lib.bitLen_le8' (x / 65536 / 256) (by omega) (by omega)
    refine (len_wrap _ 24 (Int.natCast_nonneg _) (by rw [tab_at _ (by omega) (by omega)]; omega) (by omega) (by omega)).trans ?_
    rw [tab_at _ (by omega) (by omega)]
    have e : (x / 65536 / 256).toNat = x.toNat / 16777216 := by omega
    have s := Lib.bitLen_shift24 x.toNat (by omega) (by omega)
    rw [e] at l ⊢
    omega
  · have l := Lib.bitLen_le8' (x / 65536) (by omega) (by omega)
    refine (len_wrap _ 16 (Int.natCast_nonneg _) (by rw [tab_at _ (by omega) (by omega)]; omega) (by omega) (by omega)).trans ?_
    rw [tab_at _ (by omega) (by omega)]
    have e : (x / 65536).toNat = x.toNat / 65536 := by omega
    have s := Lib.bitLen_shift16 x.toNat (by omega) (by omega)
    rw [e] at l ⊢
    omega
  · have l := Lib.bitLen_le8' (x / 256) (by omega) (by omega)
    refine (len_wrap _ 8 (Int.natCast_nonneg _) (by rw [tab_at _ (by omega) (by omega)]; omega) (by omega) (by omega)).trans ?_
    rw [tab_at _ (by omega) (by omega)]
    have e : (x / 256).toNat = x.toNat / 256 := by omega
    have s := Lib.bitLen_shift8 x.toNat (by omega) (by omega)
    rw [e] at l ⊢
    omega
  have l := Lib.bitLen_le8' x (by omega) (by omega)
  refine (len_wrap0 _ (Int.natCast_nonneg _) (by rw [tab_at _ (by omega) (by omega)]; omega)).trans ?_
  rw [tab_at _ (by omega) (by omega)]
theorem len32_any (x : Nat) (w : World) (h : x < 4294967296) :
    Calls Tryz.prog 185 #[.int .u32 x] w fun e w' => e = .returned (.int .i64 (bits x)) ∧ w = w' := by
  have := len32_raw x w (by omega) (by omega)
  rw [Int.toNat_natCast, bitLen_eq h] at this
  exact this.mono fun e w' ⟨h1, h2⟩ => ⟨h1, h2.symm⟩
set_option maxHeartbeats 400000 in
theorem lz32_any (x : Nat) (w : World) (h : x < 4294967296) :
    Calls Tryz.prog 247 #[.int .u32 x] w fun e w' => e = .returned (.int .i64 (32 - bits x : Nat)) ∧ w = w' := by
  have hb : bits x ≤ 32 := bits_le.2 h
  go_enter Tryz.func247, Tryz.ntmps247
  go_wp2_with (refine (len32_any _ _ h).mono ?_; rintro e w2 ⟨rfl, rfl⟩)
  go_ret
  exact ⟨ret_int (by omega), rfl⟩
def Tab (w : World) : Prop := ∀ j, j < 32 → w.cell? ⟨0, j, none⟩ = some (.int .u8 (Lib.deBruijn32tab.getD j 0))
theorem Tab.kp {w w' : World} (h : Tab w) (k : Kp w w') : Tab w' := fun j hj => k.cell (h j hj)

theorem ctzFrom_tz : ∀ (f x : Nat), x ≠ 0 → x < 2 ^ f → Lib.ctzFrom f x = tz x
  | 0, x, h0, h => by have : x = 0 := by simpa using h
                      exact absurd this h0
  | f + 1, x, h0, h => by
    unfold Lib.ctzFrom
    by_cases h1 : x % 2 = 1
    · rw [if_pos h1, tz_odd h1]
    · rw [if_neg h1, tz_even h0 (by omega), ctzFrom_tz f (x / 2) (by omega) (by rw [Nat.pow_succ] at h; omega), Nat.add_comm]
theorem ctz_tz {x : Nat} (h0 : x ≠ 0) (h : x < 4294967296) : Lib.ctz 32 x = tz x := by
  unfold Lib.ctz; rw [if_neg h0]; exact ctzFrom_tz 32 x h0 h
theorem tz32_key (x a : Nat) (hx : x < 4294967296) (hx0 : x ≠ 0) (hlow : x &&& (4294967296 - x) = a) :
    Go.bits BinOp.and IntKind.u32 (x : Int) (-(x : Int) % 4294967296) * 125613361 % 4294967296 / 134217728 = ((a * 125613361 % 4294967296 / 134217728 : Nat) : Int) := by
  have e1 : -(x : Int) % 4294967296 = ((4294967296 - x : Nat) : Int) := by omega
  rw [e1, u32_and_nat x _ hx (by omega), hlow]
  omega
set_option maxHeartbeats 1000000 in
theorem tz32_core (x k idx : Nat) (w : World) (hx0 : ((x : Int) == 0) = false)
    (key : Go.bits BinOp.and IntKind.u32 (x : Int) (-(x : Int) % 4294967296) * 125613361 % 4294967296 / 134217728 = (idx : Int))
    (hi : idx < 32) (hk : k < 32) (hcell : w.cell? ⟨0, idx, none⟩ = some (.int .u8 k)) :
    Calls Tryz.prog 188 #[.int .u32 x] w fun e w' => e = .returned (.int .i64 k) ∧ w = w' := by
  go_enter Tryz.func188, Tryz.ntmps188
  go_wp2_with (simp only [key])
  go_ret
  exact ⟨rfl, rfl⟩
theorem tz32_any (x : Nat) (w : World) (hx0 : x ≠ 0) (hx : x < 4294967296) (hT : Tab w) :
    Calls Tryz.prog 188 #[.int .u32 x] w fun e w' => e = .returned (.int .i64 (tz x)) ∧ w = w' := by
  obtain ⟨hlow, hk⟩ := Lib.lowest_bit 32 x hx0 hx
  obtain ⟨hi, htab⟩ := Lib.deBruijn32_at _ hk
  have hcell := hT _ hi
  rw [htab] at hcell
  have := tz32_core x _ _ w (by simp; omega) (tz32_key x _ hx hx0 hlow) hi hk hcell
  rwa [ctz_tz hx0 hx] at this
theorem limbs_snoc {n : Nat} (h : n ≠ 0) : ∃ us x, limbs n = us ++ [x] ∧ x ≠ 0 ∧ x < 4294967296 ∧ Lt32 us ∧ bits n = 32 * us.length + bits x ∧ nth (limbs n) us.length = x := by
  have h1 : limbs n ≠ [] := by rw [Ne, limbs_eq_nil]; exact h
  obtain ⟨us, x, e⟩ : ∃ us x, limbs n = us ++ [x] := ⟨_, _, (List.dropLast_concat_getLast h1).symm⟩
  have h2 := limbs_top n
  have h3 := limbs_lt32 n
  rw [e] at h2 h3
  have hx : x ≠ 0 := by intro h0; subst h0; unfold Top at h2; simp at h2
  have h4 : Lt32 us := fun y hy => h3 y (List.mem_append_left _ hy)
  refine ⟨us, x, e, hx, h3 x (by simp), h4, ?_, ?_⟩
  · rw [← bits_val_snoc h4 hx, ← e, val_limbs]
  rw [e, nth_append_right (Nat.le_refl _), Nat.sub_self]; rfl
set_option maxHeartbeats 400000 in
theorem bits_any (a : Option Addr) (xs : List Nat) (c : Nat) (w : World) (h : Rd w a xs) (hc : xs.length ≤ c) (hm : c ≤ maxLen) (hl : xs.length ≤ 1100000) :
    Calls Tryz.prog 125 #[.slice a xs.length c] w fun e w' => e = .returned (.int .i64 (bits (val xs))) ∧ w = w' := by
  have H1 := Lib.hid (trim_any a xs c w h hc hm)
  have hll := limbs_len_le h.lt32
  have hr := h.limbs
  by_cases h0 : val xs = 0
  · have hn : (limbs (val xs)).length = 0 := by rw [h0, limbs_zero]; rfl
    have Hz := Lib.hid h0
    clear h0
    rw [hn] at H1
    clear hn
    go_enter Tryz.func125, Tryz.ntmps125
    go_wp2_with fail
    refine H1.out.mono ?_
    rintro e w2 ⟨rfl, rfl⟩
    go_wp2_with fail
    go_ret
    exact ⟨ret_int (by rw [Hz.out]; rfl), rfl⟩
  obtain ⟨us, x, e, hx0, hx, hus, hb, hnth⟩ := limbs_snoc h0
  obtain ⟨b, o, rfl, hcell⟩ := hr.some (i := us.length) (by rw [e]; simp)
  have hk := hcell us.length (by rw [e]; simp)
  have hlen : (limbs (val xs)).length = us.length + 1 := by rw [e]; simp
  rw [hlen] at H1 hll
  rw [hnth] at hk
  have Hb := Lib.hid hb
  have hbx : bits x ≤ 32 := bits_le.2 hx
  clear hb hcell hlen hnth e hr h h0
  go_enter Tryz.func125, Tryz.ntmps125
  go_wp2_with fail
  refine H1.out.mono ?_
  rintro e w2 ⟨rfl, rfl⟩
  go_wp2_with fail
  refine (len32_any x _ hx).mono ?_
  rintro e w2 ⟨rfl, rfl⟩
  go_wp2_with fail
  go_ret
  exact ⟨ret_int (by rw [Hb.out]; omega), rfl⟩
def cmpN (m n : Nat) : Int := if m < n then -1 else if m = n then 0 else 1
theorem cmpN_lt {m n : Nat} (h : m < n) : cmpN m n = -1 := by unfold cmpN; rw [if_pos h]
theorem cmpN_gt {m n : Nat} (h : n < m) : cmpN m n = 1 := by unfold cmpN; rw [if_neg (by omega), if_neg (by omega)]
theorem cmpN_eq {m n : Nat} (h : m = n) : cmpN m n = 0 := by unfold cmpN; rw [if_neg (by omega), if_pos h]
theorem limbs_length_mono {m n : Nat} (h : m ≤ n) : (limbs m).length ≤ (limbs n).length :=
  limbs_length_le.2 (Nat.lt_of_le_of_lt h (by have := val_lt (limbs_lt32 n); rwa [val_limbs] at this))
theorem lt_of_limbs_length {m n : Nat} (h : (limbs m).length < (limbs n).length) : m < n := by
  apply Classical.byContradiction; intro hn
  have := limbs_length_mono (show n ≤ m by omega); omega
theorem val_lt_of_top {us vs : List Nat} {k : Nat} (hl : us.length = vs.length) (hk : k < us.length) (hu : Lt32 us) (hd : us.drop (k + 1) = vs.drop (k + 1)) (h : nth us k < nth vs k) : val us < val vs := by
  have e1 := val_take_drop us k (by omega)
  have e2 := val_take_drop vs k (by omega)
  rw [drop_eq_nth hk, val_cons] at e1
  rw [drop_eq_nth (by omega), val_cons, ← hd] at e2
  have b1 := val_lt (hu.take k)
  rw [List.length_take, Nat.min_eq_left (by omega)] at b1
  generalize 4294967296 ^ k = P at *
  generalize val (us.drop (k + 1)) = D at *
  have e3 : P * (nth us k + 1 + 4294967296 * D) ≤ P * (nth vs k + 4294967296 * D) := Nat.mul_le_mul_left _ (by omega)
  have e4 : P * (nth us k + 1 + 4294967296 * D) = P * (nth us k + 4294967296 * D) + P := by rw [show nth us k + 1 + 4294967296 * D = nth us k + 4294967296 * D + 1 from by omega, Nat.mul_add, Nat.mul_one]
  omega
set_option maxHeartbeats 1000000 in
theorem cmp_any (a b : Option Addr) (xs ys : List Nat) (c d : Nat) (w : World) (hx : Rd w a xs) (hy : Rd w b ys) (hxc : xs.length ≤ c) (hyc : ys.length ≤ d) (hc : c ≤ maxLen) (hd : d ≤ maxLen) :
    Calls Tryz.prog 123 #[.slice a xs.length c, .slice b ys.length d] w fun e w' => e = .returned (.int .i64 (cmpN (val xs) (val ys))) ∧ Kp w w' := by
  have H1 := Lib.hid (trim_any a xs c w hx hxc hc)
  have H2 := Lib.hid (trim_any b ys d w hy hyc hd)
  have h1 := hx.limbs
  have h2 := hy.limbs
  have hl1 := limbs_len_le hx.lt32
  have hl2 := limbs_len_le hy.lt32
  have Hv1 := Lib.hid (val_limbs (val xs))
  have Hv2 := Lib.hid (val_limbs (val ys))
  have Hlt := Lib.hid (@lt_of_limbs_length (val xs) (val ys))
  have Hgt := Lib.hid (@lt_of_limbs_length (val ys) (val xs))
  unfold maxLen at hc hd
  go_enter Tryz.func123, Tryz.ntmps123
  go_wp2_with fail
  refine H1.out.mono ?_
  rintro e w2 ⟨rfl, rfl⟩
  go_wp2_with fail
  refine H2.out.mono ?_
  rintro e w2 ⟨rfl, rfl⟩
  clear H1 H2 hx hy
  generalize limbs (val xs) = us at *
  generalize limbs (val ys) = vs at *
  rcases Nat.lt_trichotomy us.length vs.length with hlen | hlen | hlen
  · have hne : ((us.length : Int) != vs.length) = true := by simp; omega
    go_wp2_with fail
    go_ret
    exact ⟨ret_int (cmpN_lt (Hlt.out hlen)).symm, .refl _⟩
  · have hne : ((us.length : Int) != vs.length) = false := by simp; omega
    have Hlen := Lib.hid hlen
    have hle1 : us.length ≤ vs.length := by omega
    have hle2 : vs.length ≤ us.length := by omega
    clear hlen
    go_wp2_with fail
    go_loopw [5] (fun ix wr => ∃ k : Nat, k ≤ us.length ∧ ix = .int .i64 ((k : Int) - 1) ∧ us.drop k = vs.drop k ∧ Kp w wr) (fun ix _ => (intOf ix + 1).toNat)
    case atStart => exact ⟨us.length, Nat.le_refl _, rfl, by rw [List.drop_of_length_le (Nat.le_refl _), List.drop_of_length_le (by omega)], .refl _⟩
    case round =>
    obtain ⟨k, hk, rfl, hdrop, hkp⟩ := hrel
    have Hdrop := Lib.hid hdrop
    clear hdrop
    rcases k with _ | j
    · rw [show (((0 : Nat) : Int) - 1) = -1 from rfl]
      go_wp2_with fail
      go_ret
      have : us = vs := by have := Hdrop.out; rwa [List.drop_zero, List.drop_zero] at this
      exact ⟨ret_int (cmpN_eq (by rw [← Hv1.out, ← Hv2.out, this])).symm, hkp⟩
    rw [show (((j + 1 : Nat) : Int) - 1) = (j : Int) from by omega]
    obtain ⟨b1, o1, rfl, hcx⟩ := (h1.kp hkp).some (i := j) (by omega)
    have hx1 := hcx j (by omega)
    obtain ⟨b2, o2, rfl, hcy⟩ := (h2.kp hkp).some (i := j) (by omega)
    have hy1 := hcy j (by omega)
    clear hcx hcy
    have bx := h1.lt32.nth j
    have by' := h2.lt32.nth j
    rcases Nat.lt_trichotomy (nth us j) (nth vs j) with hd1 | hd1 | hd1
    · have Hr := Lib.hid (val_lt_of_top Hlen.out (by omega) h1.lt32 Hdrop.out hd1)
      go_wp2_with fail
      go_quiet (fail)
      go_wp2_with fail
      go_ret
      exact ⟨ret_int (cmpN_lt (by have := Hr.out; rwa [Hv1.out, Hv2.out] at this)).symm, by first | exact hkp.drewN _ | exact (hkp.drewN _).drewN _⟩
    · have hd2 : ¬ nth us j < nth vs j := by omega
      have hd3 : ¬ nth vs j < nth us j := by omega
      have Hd1 := Lib.hid hd1
      clear hd1
      go_wp2_with fail
      go_quiet (fail)
      go_wp2_with fail
      go_quiet (fail)
      go_wp2_with fail
      go_roundw
      case measure => simp [intOf]
      case rel =>
      refine ⟨j, by omega, rfl, ?_, hkp.drewN _⟩
      rw [drop_eq_nth (show j < us.length by omega), drop_eq_nth (show j < vs.length by omega), Hdrop.out, Hd1.out]
    have hd2 : ¬ nth us j < nth vs j := by omega
    have Hr := Lib.hid (val_lt_of_top (us := vs) (vs := us) (k := j) Hlen.out.symm (by omega) h2.lt32 Hdrop.out.symm hd1)
    go_wp2_with fail
    go_quiet (fail)
    go_wp2_with fail
    go_quiet (fail)
    go_wp2_with fail
    go_ret
    exact ⟨ret_int (cmpN_gt (by have := Hr.out; rwa [Hv1.out, Hv2.out] at this)).symm, by first | exact hkp.drewN _ | exact (hkp.drewN _).drewN _⟩
  have hne : ((us.length : Int) != vs.length) = true := by simp; omega
  go_wp2_with fail
  go_ret
  exact ⟨ret_int (cmpN_gt (Hgt.out hlen)).symm, .refl _⟩
end Go.Proofs.YtbhmhfnfceakoaaGreatDoor
section
namespace Go.Proofs.YtbhmhfnfceakoaaGreatDoor

theorem two_pow_pos (n : Nat) : 0 < 2 ^ n := Nat.pow_pos (by decide)
theorem two_pow_ne (n : Nat) : 2 ^ n ≠ 0 := Nat.ne_of_gt (two_pow_pos n)

def runit (m : Nat) (e : Int) (p : Nat) : Int := max (e + bits m - p) (-16384)
def rlow (m : Nat) (e u : Int) : Nat := if u ≤ e then m * 2 ^ (e - u).toNat else m / 2 ^ (u - e).toNat
def rlost (m : Nat) (e u : Int) : Bool := !decide (u ≤ e) && !decide (m % 2 ^ (u - e).toNat = 0)
def rq (m : Nat) (e : Int) (more : Bool) (p : Nat) (up : Bool) : Nat :=
  if up && (more || rlost m e (runit m e p)) then rlow m e (runit m e p) + 1 else rlow m e (runit m e p)
def rcut (m : Nat) (e : Int) (more : Bool) (p : Nat) (up : Bool) : Option Dy :=
  if (bits (rq m e more p up) : Int) + runit m e p > 16384 then
    (if up then none else some (canon false (2 ^ p - 1) (16384 - p)))
  else some (canon false (rq m e more p up) (runit m e p))

theorem runit_shift {m : Nat} (h : m ≠ 0) (k : Nat) (e : Int) (p : Nat) : runit (m * 2 ^ k) (e - k) p = runit m e p := by
  unfold runit; rw [bits_mul_pow h]; congr 1; omega
theorem rlow_shift (m k : Nat) (e u : Int) : rlow (m * 2 ^ k) (e - k) u = rlow m e u := by
  unfold rlow
  by_cases h1 : u ≤ e - k
  · rw [if_pos h1, if_pos (by omega), Nat.mul_assoc, ← Nat.pow_add]; congr 2; omega
  rw [if_neg h1]
  by_cases h2 : u ≤ e
  · rw [if_pos h2]
    have : k = (u - (e - k)).toNat + (e - u).toNat := by omega
    conv => lhs; lhs; rhs; rw [this, Nat.pow_add, Nat.mul_comm (2 ^ _)]
    rw [← Nat.mul_assoc, Nat.mul_div_cancel _ (two_pow_pos _)]
  rw [if_neg h2, show (u - (e - k)).toNat = (u - e).toNat + k from by omega, Nat.pow_add, Nat.mul_div_mul_right _ _ (two_pow_pos k)]
theorem rlost_shift (m k : Nat) (e u : Int) : rlost (m * 2 ^ k) (e - k) u = rlost m e u := by
  unfold rlost
  by_cases h1 : u ≤ e - k
  · simp [h1, show u ≤ e from by omega]
  by_cases h2 : u ≤ e
  · have : k = (u - (e - k)).toNat + (e - u).toNat := by omega
    have h3 : m * 2 ^ k % 2 ^ (u - (e - k)).toNat = 0 := by
      conv => lhs; lhs; rhs; rw [this, Nat.pow_add, Nat.mul_comm (2 ^ _)]
      rw [← Nat.mul_assoc, Nat.mul_mod_left]
    simp [h2, h3]
  rw [show (u - (e - k)).toNat = (u - e).toNat + k from by omega, Nat.pow_add, Nat.mul_mod_mul_right]
  have : (m % 2 ^ (u - e).toNat * 2 ^ k = 0) ↔ (m % 2 ^ (u - e).toNat = 0) := by
    constructor
    · intro h; rcases Nat.mul_eq_zero.1 h with h | h
      · exact h
      · exact absurd h (two_pow_ne k)
    · intro h; rw [h, Nat.zero_mul]
  simp [h1, h2, this]
theorem rcut_shift {m : Nat} (h : m ≠ 0) (k : Nat) (e : Int) (more : Bool) (p : Nat) (up : Bool) : rcut (m * 2 ^ k) (e - k) more p up = rcut m e more p up := by
  unfold rcut rq; rw [runit_shift h, rlow_shift, rlost_shift]
theorem mod_pow_add (n i j : Nat) : (n % 2 ^ (i + j) = 0) ↔ (n % 2 ^ j = 0 ∧ n / 2 ^ j % 2 ^ i = 0) := by
  have e : n % 2 ^ (i + j) = n % 2 ^ j + 2 ^ j * (n / 2 ^ j % 2 ^ i) := by
    rw [Nat.add_comm i j, Nat.pow_add, Nat.mod_mul]
  have := two_pow_pos j
  constructor
  · intro h
    rw [h] at e
    have h2 : 2 ^ j * (n / 2 ^ j % 2 ^ i) = 0 := by omega
    rcases Nat.mul_eq_zero.1 h2 with h3 | h3
    · exact absurd h3 (two_pow_ne j)
    exact ⟨by omega, h3⟩
  rintro ⟨h1, h2⟩; rw [e, h1, h2]; simp
theorem rlow_lt {m : Nat} {e : Int} {p : Nat} : rlow m e (runit m e p) < 2 ^ p := by
  by_cases h0 : m = 0
  · subst h0; unfold rlow; split <;> simp [two_pow_pos]
  have hb := lt_two_pow_bits m
  unfold rlow
  split
  · next h =>
    unfold runit at h ⊢
    calc m * 2 ^ (e - max (e + ↑(bits m) - ↑p) (-16384)).toNat < 2 ^ bits m * 2 ^ (e - max (e + ↑(bits m) - ↑p) (-16384)).toNat := Nat.mul_lt_mul_of_pos_right hb (two_pow_pos _)
      _ = 2 ^ (bits m + (e - max (e + ↑(bits m) - ↑p) (-16384)).toNat) := by rw [Nat.pow_add]
      _ ≤ 2 ^ p := Nat.pow_le_pow_right (by decide) (by omega)
  next h =>
  unfold runit at h ⊢
  rw [Nat.div_lt_iff_lt_mul (two_pow_pos _), ← Nat.pow_add]
  exact Nat.lt_of_lt_of_le hb (Nat.pow_le_pow_right (by decide) (by omega))
theorem rq_le {m : Nat} {e : Int} {more : Bool} {p : Nat} {up : Bool} : rq m e more p up ≤ 2 ^ p := by
  have := @rlow_lt m e p
  unfold rq; split <;> omega
theorem bits_two_pow (p : Nat) : bits (2 ^ p) = p + 1 := by
  apply bits_unique
  · exact Nat.pow_lt_pow_right (by decide) (by omega)
  right; simp
theorem bits_two_pow_sub_one {p : Nat} (h : 0 < p) : bits (2 ^ p - 1) = p := by
  have := two_pow_pos p
  apply bits_unique
  · omega
  right
  have e : 2 ^ p = 2 ^ (p - 1) * 2 := by rw [← Nat.pow_succ]; congr 1; omega
  have := two_pow_pos (p - 1)
  omega
theorem bits_oddp_le {n p : Nat} (h : n ≤ 2 ^ p) (hp : 0 < p) : bits (oddp n) ≤ p := by
  by_cases h0 : n = 0
  · subst h0; unfold oddp; simp [bits_zero]
  by_cases h1 : n = 2 ^ p
  · subst h1
    have := @oddp_mul_pow 1 (by decide) p
    rw [Nat.one_mul] at this
    rw [this]; show bits 1 ≤ p
    rw [bits_le]; exact Nat.lt_of_lt_of_le (by decide : 1 < 2 ^ 1) (Nat.pow_le_pow_right (by decide) hp)
  have := bits_oddp h0
  have h2 : bits n ≤ p := bits_le.2 (by omega)
  omega
def isP (p : Nat) (d : Dy) : Prop := d.ok ∧ bits d.m ≤ p

theorem canon_isP {n : Nat} {u : Int} {p : Nat} (hp : 0 < p) (hp2 : p ≤ 4096) (h1 : n ≤ 2 ^ p) (h2 : -16384 ≤ u) (h3 : (bits n : Int) + u ≤ 16384) : isP p (canon false n u) := by
  by_cases h0 : n = 0
  · subst h0; exact ⟨Dy.ok_zero, by rw [canon_zero]; exact Nat.zero_le _⟩
  have hb := bits_oddp_le h1 hp
  have hs := bits_oddp h0
  have hm : (canon false n u).m = oddp n := by unfold canon; rw [if_neg h0]
  have he : (canon false n u).e = u + tz n := by unfold canon; rw [if_neg h0]
  refine ⟨(canon_ok_iff _ _ _).2 (.inr ?_), by rw [hm]; exact hb⟩
  have := bits_pos (oddp_ne_zero h0)
  rw [hm, he]; omega
theorem runit_ge {m : Nat} {e : Int} {p : Nat} : -16384 ≤ runit m e p := by unfold runit; omega
theorem rcut_isP {m : Nat} {e : Int} {more : Bool} {p : Nat} {up : Bool} {d : Dy} (hp : 0 < p) (hp2 : p ≤ 4096) (h : rcut m e more p up = some d) : isP p d ∧ d.neg = false := by
  unfold rcut at h
  have hneg : ∀ n u, (canon false n u).neg = false := fun n u => by unfold canon; split <;> rfl
  split at h
  · next hb =>
    split at h
    · cases h
    cases h
    refine ⟨canon_isP hp hp2 (Nat.sub_le _ _) (by omega) ?_, hneg _ _⟩
    rw [bits_two_pow_sub_one hp]; omega
  next hb =>
  cases h
  exact ⟨canon_isP hp hp2 rq_le runit_ge (by omega), hneg _ _⟩
end Go.Proofs.YtbhmhfnfceakoaaGreatDoor
end
namespace Go.Proofs.YtbhmhfnfceakoaaGreatDoor
open Go.RowKit
theorem shl_or {x r c : Nat} (hx : x < 4294967296) (hr : r < 32) (hc : c < 2 ^ r) :
    ∃ s : Nat, Go.bits BinOp.or IntKind.u64 (IntKind.u64.wrap ((x : Int) * 2 ^ r)) (c : Int) = (s : Int) ∧ s = x * 2 ^ r + c ∧ s / 4294967296 < 2 ^ r ∧ s < 9223372036854775808 := by
  have h1 : 2 ^ r ≤ 2 ^ 31 := Nat.pow_le_pow_right (by decide) (by omega)
  have h2 : x * 2 ^ r ≤ 4294967295 * 2 ^ r := Nat.mul_le_mul_right _ (by omega)
  have h3 : x * 2 ^ r + c < 4294967296 * 2 ^ r := by omega
  have e1 : IntKind.u64.wrap ((x : Int) * 2 ^ r) = ((x * 2 ^ r : Nat) : Int) := by
    rw [show (x : Int) * 2 ^ r = ((x * 2 ^ r : Nat) : Int) from by push_cast; rfl, IntKind.wrap_u64]
    omega
  refine ⟨x * 2 ^ r + c, ?_, rfl, ?_, by omega⟩
  · rw [e1, u64_or_nat _ _ (by omega) (by omega), nat_join r _ _ (Nat.mul_mod_left _ _) hc]
  exact (Nat.div_lt_iff_lt_mul (by decide)).2 (by rw [Nat.mul_comm (2 ^ r)]; exact h3)
theorem shl_step {zs : List Nat} {q k cr s V x r : Nat} (hl : zs.length = q + k) (h : val zs + 4294967296 ^ (q + k) * cr = 4294967296 ^ q * (2 ^ r * V)) (hs : s = x * 2 ^ r + cr) :
    val (zs ++ [s % 4294967296]) + 4294967296 ^ (q + (k + 1)) * (s / 4294967296) = 4294967296 ^ q * (2 ^ r * (V + 4294967296 ^ k * x)) := by
  rw [val_snoc, hl, show q + (k + 1) = q + k + 1 from by omega, Nat.pow_succ, Nat.mul_assoc]
  have e : 4294967296 ^ (q + k) * (s % 4294967296) + 4294967296 ^ (q + k) * (4294967296 * (s / 4294967296)) = 4294967296 ^ (q + k) * s := by
    rw [← Nat.mul_add]; congr 1; omega
  have e2 : 4294967296 ^ (q + k) * s = 4294967296 ^ q * (2 ^ r * (4294967296 ^ k * x)) + 4294967296 ^ (q + k) * cr := by
    rw [hs, Nat.mul_add, Nat.pow_add]
    congr 1
    rw [Nat.mul_assoc]; congr 1
    rw [Nat.mul_comm x, ← Nat.mul_assoc, ← Nat.mul_assoc, Nat.mul_comm (2 ^ r)]
  rw [Nat.mul_add (2 ^ r), Nat.mul_add (4294967296 ^ q)]
  omega
theorem pow_split (n : Nat) : 4294967296 ^ (n / 32) * 2 ^ (n % 32) = 2 ^ n := by
  rw [pow32, ← Nat.pow_add]; congr 1; omega
def MadeC (w : World) (v n : Nat) (e : Ending) (w' : World) : Prop :=
  ∃ a c zs, e = .returned (.slice a n c) ∧ zs.length = n ∧ n ≤ c ∧ c ≤ maxLen ∧ val zs = v ∧ Rd w' a zs ∧ Kp w w'
theorem MadeV.c {w : World} {v n : Nat} {e : Ending} {w' : World} (h : MadeV w v n e w') (hn : n ≤ maxLen) : MadeC w v n e w' := by
  obtain ⟨g, zs, h1, h2, h3, h4, h5⟩ := h
  exact ⟨_, n, zs, h1, h2, Nat.le_refl _, hn, h3, h4, h5⟩
def MadeO (w : World) (v n : Nat) (e : Ending) (w' : World) : Prop :=
  ∃ a c zs, e = .returned (.slice a n c) ∧ zs.length = n ∧ val zs = v ∧ Own w' w.heap.size (.slice a n c) zs ∧ Kp w w'
theorem MadeO.c {w : World} {v n : Nat} {e : Ending} {w' : World} (h : MadeO w v n e w') : MadeC w v n e w' := by
  obtain ⟨a, c, zs, he, hl, hv, ho, hk⟩ := h
  obtain ⟨h5, h6, h7, h8⟩ := ho.rd
  exact ⟨a, c, zs, he, hl, by omega, h7, hv, h8, hk⟩
theorem Own.len {w : World} {base : Nat} {a : Option Addr} {n m c : Nat} {xs : List Nat} (h : Own w base (.slice a n c) xs) (e : n = m) : Own w base (.slice a m c) xs := e ▸ h

set_option maxHeartbeats 1000000 in
theorem shl_own (a : Option Addr) (xs : List Nat) (c n : Nat) (w : World) (hx : Rd w a xs) (hxc : xs.length ≤ c) (hc : c ≤ maxLen) (hxl : xs.length ≤ 1100000) (hn : n ≤ 65536) :
    Calls Tryz.prog 216 #[.slice a xs.length c, .int .i64 n] w (MadeO w (val xs * 2 ^ n) (n / 32 + (limbs (val xs)).length + 1)) := by
  have H1 := Lib.hid (trim_any a xs c w hx hxc hc)
  have h1 := hx.limbs
  have hl1 := limbs_len_le hx.lt32
  have Hv1 := Lib.hid (val_limbs (val xs))
  go_enter Tryz.func216, Tryz.ntmps216
  go_wp2_with fail
  refine H1.out.mono ?_
  rintro e w2 ⟨rfl, rfl⟩
  clear H1 hx
  generalize limbs (val xs) = us at *
  have hmk := make_u32c ((n : Int) / 32) ((n : Int) / 32 + us.length + 1) (n / 32) (n / 32 + us.length + 1) (by omega) (by omega) (by omega) (by omega)
  go_wp2_with fail
  clear hmk
  have hr : n % 32 < 32 := Nat.mod_lt _ (by decide)
  go_loopw [5, 6, 23] (fun v cy ix wr => ∃ (k cr : Nat) (a' : Option Addr) (c' : Nat) (zs : List Nat), k ≤ us.length ∧ ix = .int .i64 k ∧ cy = .int .u64 cr ∧ v = .slice a' zs.length c' ∧ cr < 2 ^ (n % 32) ∧
      zs.length = n / 32 + k ∧ Own wr w.heap.size (.slice a' zs.length c') zs ∧ val zs + 4294967296 ^ (n / 32 + k) * cr = 4294967296 ^ (n / 32) * (2 ^ (n % 32) * val (us.take k)) ∧ Kp w wr) (fun _ _ ix _ => us.length - (intOf ix).toNat)
  case atStart =>
    refine ⟨0, 0, _, _, List.replicate (n / 32) 0, Nat.zero_le _, rfl, rfl, by rw [List.length_replicate], two_pow_pos _, by simp, ?_, by simp [val, val_replicate], (Kp.refl _).alloc _⟩
    rw [List.length_replicate]
    exact Own.made _ _ _ (by omega) (by omega) _ (Nat.le_refl _)
  case round =>
  obtain ⟨k, cr, a', c', zs, hk, rfl, rfl, rfl, hcr, hzl, hown, hvz, hkp⟩ := hrel
  have Hvz := Lib.hid hvz
  have Hzl := Lib.hid hzl
  have hzl1 : zs.length ≤ n / 32 + k := by omega
  have Hcr := Lib.hid hcr
  clear hvz hzl hcr
  by_cases hlt : k < us.length
  rotate_left
  · have hke : k = us.length := by omega
    have Hke := Lib.hid hke
    have Hcr2 := Lib.hid (Nat.lt_of_lt_of_le Hcr.out (Nat.pow_le_pow_right (by decide) (show n % 32 ≤ 31 by omega)))
    have hcr3 : cr < 4294967296 := by have := Hcr2.out; omega
    clear hke
    go_wp2_with (at_builtin; refine wpList_append_u32 rfl _ _ rfl w.heap.size _ _ rfl (hown.alloc _) _ _ rfl (World.cell?_alloc_new _ _ _ _) cr (by omega) (by omega) (by omega) (by have := hkp.size; simp; omega) ?_; intro a2 c2 w2 hown2 hb2)
    go_ret
    have e2 := Hvz.out
    rw [Hke.out, List.take_of_length_le (Nat.le_refl _), ← Nat.mul_assoc, pow_split, Hv1.out] at e2
    refine ⟨a2, c2, zs ++ [cr], ret_len (by rw [Hzl.out, Hke.out]), by simp [Hzl.out, Hke.out], ?_, hown2.len (by rw [Hzl.out, Hke.out]), (hkp.alloc _).below.trans hb2⟩
    rw [val_snoc, Hzl.out, Hke.out, e2, Nat.mul_comm]
  obtain ⟨b1, o1, rfl, hcx⟩ := (h1.kp hkp).some hlt
  have hx1 := hcx k hlt
  have bx := h1.lt32.nth k
  obtain ⟨s, hor, hs, hs2, hs3⟩ := shl_or bx hr Hcr.out
  have Hst := Lib.hid (shl_step (zs := zs) (q := n / 32) (k := k) Hzl.out Hvz.out hs)
  have Hs2 := Lib.hid hs2
  clear hcx hs hs2
  go_wp2_with (at_builtin; refine wpList_append_u32 rfl _ _ rfl w.heap.size _ _ rfl (hown.alloc _) _ _ rfl (World.cell?_alloc_new _ _ _ _) (s % 4294967296) (by omega) (by omega) (by omega) (by have := hkp.size; simp; omega) ?_; intro a2 c2 w2 hown2 hb2)
  go_roundw
  case measure => simp [intOf]; omega
  case rel =>
  refine ⟨k + 1, s / 4294967296, a2, c2, zs ++ [s % 4294967296], by omega, by go_num, by congr 1, by simp, Hs2.out, by simp [Hzl.out]; omega, by simpa using hown2, ?_, ((hkp.alloc _).below.trans hb2)⟩
  rw [val_take_step]; exact Hst.out
theorem shl_any (a : Option Addr) (xs : List Nat) (c n : Nat) (w : World) (hx : Rd w a xs) (hxc : xs.length ≤ c) (hc : c ≤ maxLen) (hxl : xs.length ≤ 1100000) (hn : n ≤ 65536) :
    Calls Tryz.prog 216 #[.slice a xs.length c, .int .i64 n] w (MadeC w (val xs * 2 ^ n) (n / 32 + (limbs (val xs)).length + 1)) :=
  (shl_own a xs c n w hx hxc hc hxl hn).mono fun _ _ h => h.c
theorem shr_or {x y : Nat} (hx : x < 4294967296) (hy : y < 4294967296) :
    Go.bits BinOp.or IntKind.u64 (x : Int) ((y : Int) * 4294967296) = ((x + 4294967296 * y : Nat) : Int) := by
  rw [show (y : Int) * 4294967296 = ((y * 2 ^ 32 : Nat) : Int) from by rw [Int.natCast_mul]; rfl, u64_or_nat _ _ (by omega) (by omega), Nat.or_comm, nat_join 32 _ _ (Nat.mul_mod_left _ _) hx]
  congr 1; omega
theorem cast_shr (x y p : Nat) : ((x : Int) + 4294967296 * y) / 2 ^ p % 4294967296 = (((x + 4294967296 * y) / 2 ^ p % 4294967296 : Nat) : Int) := by
  rw [Int.natCast_emod, Int.natCast_ediv, Int.natCast_add, Int.natCast_mul, Int.natCast_pow]; rfl
theorem cast_shr0 (x p : Nat) : (x : Int) / 2 ^ p % 4294967296 = ((x / 2 ^ p % 4294967296 : Nat) : Int) := by
  rw [Int.natCast_emod, Int.natCast_ediv, Int.natCast_pow]; rfl
theorem shr_limb {x y r : Nat} (hx : x < 4294967296) (hr : r < 32) : (x + 4294967296 * y) / 2 ^ r % 4294967296 * 2 ^ r + x % 2 ^ r = x + 4294967296 * (y % 2 ^ r) := by
  have hp := two_pow_pos r
  obtain ⟨C, hC⟩ : ∃ C, 4294967296 = C * 2 ^ r := ⟨2 ^ (32 - r), by rw [← Nat.pow_add, show 32 - r + r = 32 from by omega]⟩
  have e1 : (x + 4294967296 * y) / 2 ^ r = x / 2 ^ r + C * y := by
    rw [hC, Nat.mul_right_comm, Nat.add_mul_div_right _ _ hp]
  have hxC : x / 2 ^ r < C := by rw [Nat.div_lt_iff_lt_mul hp]; omega
  have e2 : C * y = C * (y % 2 ^ r) + 4294967296 * (y / 2 ^ r) := by
    have := Nat.div_add_mod y (2 ^ r)
    rw [hC, Nat.mul_assoc, ← Nat.mul_add]; congr 1; omega
  have hlt : C * (y % 2 ^ r) + C ≤ 4294967296 := by
    have := Nat.mul_le_mul_left C (show y % 2 ^ r + 1 ≤ 2 ^ r from Nat.mod_lt y hp)
    rw [Nat.mul_add, Nat.mul_one] at this
    omega
  have e3 : (x / 2 ^ r + C * y) % 4294967296 = x / 2 ^ r + C * (y % 2 ^ r) := by
    rw [e2, ← Nat.add_assoc, Nat.add_mul_mod_self_left]
    exact Nat.mod_eq_of_lt (by omega)
  rw [e1, e3, Nat.add_mul]
  have e4 := Nat.div_add_mod x (2 ^ r)
  have e5 : C * (y % 2 ^ r) * 2 ^ r = 4294967296 * (y % 2 ^ r) := by rw [Nat.mul_right_comm, ← hC]
  rw [Nat.mul_comm] at e4
  omega
theorem shr_step {zs vs : List Nat} {k r z t : Nat} (hk : k < zs.length) (h : val (zs.take k) * 2 ^ r + t = val (vs.take k) + 4294967296 ^ k * (nth vs k % 2 ^ r))
    (hz : z * 2 ^ r + nth vs k % 2 ^ r = nth vs k + 4294967296 * (nth vs (k + 1) % 2 ^ r)) :
    val ((zs.set k z).take (k + 1)) * 2 ^ r + t = val (vs.take (k + 1)) + 4294967296 ^ (k + 1) * (nth vs (k + 1) % 2 ^ r) := by
  rw [val_take_set hk, val_take_step vs, Nat.pow_succ, Nat.mul_assoc, Nat.add_mul, Nat.mul_assoc]
  generalize 4294967296 ^ k = P at *
  have e : P * (z * 2 ^ r + nth vs k % 2 ^ r) = P * (z * 2 ^ r) + P * (nth vs k % 2 ^ r) := Nat.mul_add _ _ _
  rw [hz, Nat.mul_add] at e
  omega
set_option maxHeartbeats 1000000 in
set_option maxRecDepth 100000 in
theorem shr_any (a : Option Addr) (xs : List Nat) (c n : Nat) (w : World) (hx : Rd w a xs) (hxc : xs.length ≤ c) (hc : c ≤ maxLen) (hxl : xs.length ≤ 1100000) (hn : n ≤ 65536) :
    Calls Tryz.prog 189 #[.slice a xs.length c, .int .i64 n] w (MadeC w (val xs / 2 ^ n) ((limbs (val xs)).length - n / 32)) := by
  have H1 := Lib.hid (trim_any a xs c w hx hxc hc)
  have h1 := hx.limbs
  have hl1 := limbs_len_le hx.lt32
  have Hv1 := Lib.hid (val_limbs (val xs))
  go_enter Tryz.func189, Tryz.ntmps189
  go_wp2_with fail
  refine H1.out.mono ?_
  rintro e w2 ⟨rfl, rfl⟩
  clear H1 hx
  generalize limbs (val xs) = us at *
  by_cases hq : us.length ≤ n / 32
  · have hq2 : (us.length : Int) ≤ (n : Int) / 32 := by omega
    go_wp2_with fail
    go_ret
    have h2 := val_lt h1.lt32
    rw [Hv1.out, pow32] at h2
    refine ⟨none, 0, [], ret_len (by omega), by simp; omega, by omega, by unfold maxLen; omega, ?_, .nil _ _, .refl _⟩
    rw [Nat.div_eq_of_lt (Nat.lt_of_lt_of_le h2 (Nat.pow_le_pow_right (by decide) (by omega)))]; rfl
  have hq2 : ¬ (us.length : Int) ≤ (n : Int) / 32 := by omega
  obtain ⟨b1, o1, rfl, _⟩ := h1.some (i := 0) (by omega)
  have h2 := h1.drop (n / 32)
  have hcap : us.length ≤ c := by omega
  have hq3 : (n : Int) / 32 < us.length := by omega
  have hvl : (us.drop (n / 32)).length = us.length - n / 32 := List.length_drop
  have hval : val (us.drop (n / 32)) = val us / 4294967296 ^ (n / 32) := by
    have e := val_take_drop us (n / 32) (by omega)
    have b := val_lt (h1.lt32.take (n / 32))
    rw [List.length_take, Nat.min_eq_left (by omega)] at b
    rw [e, Nat.add_mul_div_left _ _ (Nat.pow_pos (by decide)), Nat.div_eq_of_lt b, Nat.zero_add]
  have Hval := Lib.hid hval
  clear hq2 hval h1
  generalize us.drop (n / 32) = vs at *
  have hr : n % 32 < 32 := Nat.mod_lt _ (by decide)
  have hvl2 : us.length - n / 32 ≤ vs.length := by omega
  have Hvl := Lib.hid hvl
  clear hvl
  have hmk := make_u32 ((us.length - n / 32 : Nat) : Int) (us.length - n / 32) rfl (by omega)
  go_wp2_with fail
  clear hmk
  go_loopw [25] (fun ix wr => ∃ (k : Nat) (zs : List Nat), k ≤ us.length - n / 32 ∧ ix = .int .i64 k ∧ zs.length = us.length - n / 32 ∧ Blk wr w.heap.size zs ∧ Lt32 zs ∧
    val (zs.take k) * 2 ^ (n % 32) + nth vs 0 % 2 ^ (n % 32) = val (vs.take k) + 4294967296 ^ k * (nth vs k % 2 ^ (n % 32)) ∧ Kp w wr) (fun ix _ => (us.length - n / 32) - (intOf ix).toNat)
  case atStart => exact ⟨0, _, Nat.zero_le _, rfl, by simp, Blk.made _ _, .replicate _, by simp [val], (Kp.refl _).alloc _⟩
  case round =>
  obtain ⟨k, zs, hk, rfl, hzl, hb, hz32, hvz, hkp⟩ := hrel
  have Hvz := Lib.hid hvz
  have Hzl := Lib.hid hzl
  clear hvz
  by_cases hlt : k < us.length - n / 32
  rotate_left
  · have hke : k = us.length - n / 32 := by omega
    have Hke := Lib.hid hke
    clear hke
    go_wp2_with fail
    go_ret
    have e2 := Hvz.out
    have h0 : nth vs k = 0 := nth_ge (by rw [Hvl.out, Hke.out]; omega)
    rw [h0, Nat.zero_mod, Nat.mul_zero, Nat.add_zero, Hke.out, List.take_of_length_le (by rw [Hzl.out]; omega), List.take_of_length_le (by rw [Hvl.out]; omega)] at e2
    have hlt3 := Nat.mod_lt (nth vs 0) (two_pow_pos (n % 32))
    have e3 : val zs = val vs / 2 ^ (n % 32) := by
      rw [← e2, Nat.mul_comm, Nat.mul_add_div (two_pow_pos _), Nat.div_eq_of_lt hlt3, Nat.add_zero]
    refine ⟨_, us.length - n / 32, zs, ret_len rfl, Hzl.out, Nat.le_refl _, by unfold maxLen; omega, ?_, hb.rd hz32, hkp⟩
    rw [e3, Hval.out, Hv1.out, Nat.div_div_eq_div_mul, pow_split]
  obtain ⟨b2, o2, e2, hcx⟩ := (h2.kp hkp).some (i := k) (by omega)
  cases e2
  have hx1 := hcx k (by omega)
  have bx := h2.lt32.nth k
  have bx2 := h2.lt32.nth (k + 1)
  have hs1 := hb.cell (i := k) (by omega)
  have hs2 := hb.frozen k
  have Hst := Lib.hid (fun z => shr_step (zs := zs) (z := z) (by omega) Hvz.out)
  have Hl := Lib.hid (shr_limb (y := nth vs (k + 1)) bx hr)
  by_cases hlt2 : k + 1 < us.length - n / 32
  · have hx2 := hcx (k + 1) (by omega)
    have hor := shr_or bx bx2
    clear hcx
    go_wp2_with fail
    go_roundw
    case measure => simp [intOf]; omega
    case rel =>
    refine ⟨k + 1, zs.set k ((nth vs k + 4294967296 * nth vs (k + 1)) / 2 ^ (n % 32) % 4294967296), by omega, by go_num, by simp [Hzl.out], hb.put (cast_shr _ _ _), hz32.set _ _ (Nat.mod_lt _ (by decide)), Hst.out _ Hl.out, hkp.set (Nat.le_refl _) _⟩
  have h0 : nth vs (k + 1) = 0 := nth_ge (by rw [Hvl.out]; omega)
  have H0 := Lib.hid h0
  clear hcx h0
  go_wp2_with fail
  go_roundw
  case measure => simp [intOf]; omega
  case rel =>
  have h3 := Hl.out
  rw [H0.out, Nat.mul_zero, Nat.add_zero] at h3
  refine ⟨k + 1, zs.set k (nth vs k / 2 ^ (n % 32) % 4294967296), by omega, by go_num, by simp [Hzl.out], hb.put (cast_shr0 _ _), hz32.set _ _ (Nat.mod_lt _ (by decide)), Hst.out _ (by rw [H0.out]; exact h3), hkp.set (Nat.le_refl _) _⟩
set_option maxHeartbeats 400000 in
theorem Add_any (a b : Option Addr) (xs ys : List Nat) (c d : Nat) (w : World) (hx : Rd w a xs) (hy : Rd w b ys) (hxl : xs.length ≤ 256) (hyl : ys.length ≤ 256) (hv : (limbs (val xs + val ys)).length ≤ 256) :
    Calls Tryz.prog 122 #[.slice a xs.length c, .slice b ys.length d] w (Nat2 w (val xs + val ys) 0) := by
  have Hv := Lib.hid hv
  clear hv
  go_enter Tryz.func122, Tryz.ntmps122
  go_wp2_with fail
  refine (long_two a b xs.length c ys.length d _ _ hxl hyl (by simp) (by simp)).mono ?_
  rintro e w1 ⟨rfl, hk1⟩
  have hk : Kp w w1 := ((Kp.refl w).alloc _).trans hk1
  clear hk1
  go_wp2_with fail
  refine (add_any a b xs ys c d _ (hx.kp hk) (hy.kp hk) (by omega) (by omega)).mono ?_
  rintro e w2 ⟨g, zs, rfl, hzl, hzv, hrd, hk2⟩
  have hm : zs.length ≤ maxLen := by rw [hzl]; unfold maxLen; omega
  rw [← hzl]
  have Hzv := Lib.hid hzv
  clear hzv hzl
  go_wp2_with fail
  refine (done_ok _ zs _ _ hrd (Nat.le_refl _) hm (by rw [Hzv.out]; exact Hv.out)).mono ?_
  rintro e w3 ⟨a3, c3, rfl, h1, h2, h3, h4⟩
  go_wp2_with fail
  go_ret2
  rw [Hzv.out] at h1 h3 ⊢
  exact ⟨a3, c3, rfl, h1, h2, h3, (hk.trans hk2).trans h4⟩
set_option maxHeartbeats 400000 in
theorem Mul_any (a b : Option Addr) (xs ys : List Nat) (c d : Nat) (w : World) (hx : Rd w a xs) (hy : Rd w b ys) (hxl : xs.length ≤ 256) (hyl : ys.length ≤ 256) (hxc : xs.length ≤ c) (hyc : ys.length ≤ d) (hc : c ≤ maxLen) (hd : d ≤ maxLen) (hv : (limbs (val xs * val ys)).length ≤ 256) :
    Calls Tryz.prog 59 #[.slice a xs.length c, .slice b ys.length d] w (Nat2 w (val xs * val ys) 0) := by
  have Hv := Lib.hid hv
  clear hv
  have hl1 := limbs_len_le hx.lt32
  have hl2 := limbs_len_le hy.lt32
  go_enter Tryz.func59, Tryz.ntmps59
  go_wp2_with fail
  refine (long_two a b xs.length c ys.length d _ _ hxl hyl (by simp) (by simp)).mono ?_
  rintro e w1 ⟨rfl, hk1⟩
  have hk : Kp w w1 := ((Kp.refl w).alloc _).trans hk1
  clear hk1
  go_wp2_with fail
  refine (trim_any a xs c w1 (hx.kp hk) hxc hc).mono ?_
  rintro e w2 ⟨rfl, rfl⟩
  go_wp2_with fail
  refine (trim_any b ys d w1 (hy.kp hk) hyc hd).mono ?_
  rintro e w2 ⟨rfl, rfl⟩
  go_wp2_with fail
  refine (mul_any a b (limbs (val xs)) (limbs (val ys)) c d _ (hx.kp hk).limbs (hy.kp hk).limbs (by omega) (by omega)).mono ?_
  rintro e w2 ⟨g, zs, rfl, hzl, hzv, hrd, hk2⟩
  rw [val_limbs, val_limbs] at hzv
  have hm : zs.length ≤ maxLen := by rw [hzl]; unfold maxLen; omega
  rw [← hzl]
  have Hzv := Lib.hid hzv
  clear hzv hzl
  go_wp2_with fail
  refine (done_ok _ zs _ _ hrd (Nat.le_refl _) hm (by rw [Hzv.out]; exact Hv.out)).mono ?_
  rintro e w3 ⟨a3, c3, rfl, h1, h2, h3, h4⟩
  go_wp2_with fail
  go_ret2
  rw [Hzv.out] at h1 h3 ⊢
  exact ⟨a3, c3, rfl, h1, h2, h3, (hk.trans hk2).trans h4⟩
set_option maxHeartbeats 400000 in
theorem Sub_any (a b : Option Addr) (xs ys : List Nat) (c d : Nat) (w : World) (hx : Rd w a xs) (hy : Rd w b ys) (hxl : xs.length ≤ 256) (hyl : ys.length ≤ 256) (hxc : xs.length ≤ c) (hyc : ys.length ≤ d) (hc : c ≤ maxLen) (hd : d ≤ maxLen) (hle : val ys ≤ val xs) :
    Calls Tryz.prog 124 #[.slice a xs.length c, .slice b ys.length d] w (Nat2 w (val xs - val ys) 0) := by
  have hl1 := limbs_len_le hx.lt32
  have Hv := Lib.hid (Nat.le_trans (limbs_length_mono (Nat.sub_le (val xs) (val ys))) (Nat.le_trans hl1 hxl))
  have Hcmp := Lib.hid hle
  have hcm : ¬ cmpN (val xs) (val ys) < 0 := by unfold cmpN; rw [if_neg (by omega)]; split <;> omega
  go_enter Tryz.func124, Tryz.ntmps124
  go_wp2_with fail
  refine (long_two a b xs.length c ys.length d _ _ hxl hyl (by simp) (by simp)).mono ?_
  rintro e w1 ⟨rfl, hk1⟩
  have hk : Kp w w1 := ((Kp.refl w).alloc _).trans hk1
  clear hk1
  go_wp2_with fail
  refine (cmp_any a b xs ys c d _ (hx.kp hk) (hy.kp hk) hxc hyc hc hd).mono ?_
  rintro e w2 ⟨rfl, hk2⟩
  have hk' := hk.trans hk2
  clear hk hk2
  go_wp2_with fail
  refine (sub_any a b xs ys c d _ (hx.kp hk') (hy.kp hk') (by omega) hxc hyc hc hd Hcmp.out).mono ?_
  rintro e w3 ⟨g, zs, rfl, hzl, hzv, hrd, hk3⟩
  have hm : zs.length ≤ maxLen := by rw [hzl]; unfold maxLen; omega
  rw [← hzl]
  have Hzv := Lib.hid hzv
  clear hzv hzl
  go_wp2_with fail
  refine (done_ok _ zs _ _ hrd (Nat.le_refl _) hm (by rw [Hzv.out]; exact Hv.out)).mono ?_
  rintro e w4 ⟨a3, c3, rfl, h1, h2, h3, h4⟩
  go_wp2_with fail
  go_ret2
  rw [Hzv.out] at h1 h3 ⊢
  exact ⟨a3, c3, rfl, h1, h2, h3, (hk'.trans hk3).trans h4⟩
set_option maxHeartbeats 400000 in
theorem Shl_any (a : Option Addr) (xs : List Nat) (c : Nat) (n : Int) (w : World) (hx : Rd w a xs) (hxl : xs.length ≤ 256) (hxc : xs.length ≤ c) (hc : c ≤ maxLen) (h0 : 0 ≤ n) (hn : n ≤ 65536) (hv : (limbs (val xs * 2 ^ n.toNat)).length ≤ 256) :
    Calls Tryz.prog 182 #[.slice a xs.length c, .int .i64 n] w (Nat2 w (val xs * 2 ^ n.toNat) 0) := by
  obtain ⟨n, rfl⟩ := Int.eq_ofNat_of_zero_le h0
  rw [Int.toNat_natCast] at hv ⊢
  have Hv := Lib.hid hv
  clear hv
  have hl1 := limbs_len_le hx.lt32
  go_enter Tryz.func182, Tryz.ntmps182
  go_wp2_with fail
  refine (long_one a xs.length c _ _ hxl (by simp)).mono ?_
  rintro e w1 ⟨rfl, hk1⟩
  have hk : Kp w w1 := ((Kp.refl w).alloc _).trans hk1
  clear hk1
  go_wp2_with fail
  refine (shl_any a xs c n _ (hx.kp hk) hxc hc (by omega) (by omega)).mono ?_
  rintro e w3 ⟨a2, c2, zs, rfl, hzl, hzc, hcm, hzv, hrd, hk3⟩
  rw [← hzl] at hzc ⊢
  have Hzv := Lib.hid hzv
  clear hzv hzl
  go_wp2_with fail
  refine (done_ok _ zs _ _ hrd hzc hcm (by rw [Hzv.out]; exact Hv.out)).mono ?_
  rintro e w4 ⟨a3, c3, rfl, h1, h2, h3, h4⟩
  go_wp2_with fail
  go_ret2
  rw [Hzv.out] at h1 h3 ⊢
  exact ⟨a3, c3, rfl, h1, h2, h3, (hk.trans hk3).trans h4⟩
set_option maxHeartbeats 400000 in
theorem Shr_any (a : Option Addr) (xs : List Nat) (c : Nat) (n : Int) (w : World) (hx : Rd w a xs) (hxl : xs.length ≤ 256) (hxc : xs.length ≤ c) (hc : c ≤ maxLen) (h0 : 0 ≤ n) (hn : n ≤ 65536) :
    Calls Tryz.prog 132 #[.slice a xs.length c, .int .i64 n] w (Nat2 w (val xs / 2 ^ n.toNat) 0) := by
  obtain ⟨n, rfl⟩ := Int.eq_ofNat_of_zero_le h0
  rw [Int.toNat_natCast]
  have hl1 := limbs_len_le hx.lt32
  have Hv := Lib.hid (Nat.le_trans (limbs_length_mono (Nat.div_le_self (val xs) (2 ^ n))) (Nat.le_trans hl1 hxl))
  go_enter Tryz.func132, Tryz.ntmps132
  go_wp2_with fail
  refine (long_one a xs.length c _ _ hxl (by simp)).mono ?_
  rintro e w1 ⟨rfl, hk1⟩
  have hk : Kp w w1 := ((Kp.refl w).alloc _).trans hk1
  clear hk1
  go_wp2_with fail
  refine (shr_any a xs c n _ (hx.kp hk) hxc hc (by omega) (by omega)).mono ?_
  rintro e w3 ⟨a2, c2, zs, rfl, hzl, hzc, hcm, hzv, hrd, hk3⟩
  rw [← hzl] at hzc ⊢
  have Hzv := Lib.hid hzv
  clear hzv hzl
  go_wp2_with fail
  refine (done_ok _ zs _ _ hrd hzc hcm (by rw [Hzv.out]; exact Hv.out)).mono ?_
  rintro e w4 ⟨a3, c3, rfl, h1, h2, h3, h4⟩
  go_wp2_with fail
  go_ret2
  rw [Hzv.out] at h1 h3 ⊢
  exact ⟨a3, c3, rfl, h1, h2, h3, (hk.trans hk3).trans h4⟩
def Shows (w : World) (xs : List Nat) (e : Ending) (w' : World) : Prop :=
  ∃ a c, e = .returned (.slice a xs.length c) ∧ Rd w' a xs ∧ xs.length ≤ c ∧ c ≤ maxLen ∧ Kp w w'

set_option maxHeartbeats 400000 in
theorem clone_any (a : Option Addr) (xs : List Nat) (c : Nat) (w : World) (h : Rd w a xs) (hl : xs.length ≤ 1100000) :
    Calls Tryz.prog 134 #[.slice a xs.length c] w (Shows w xs) := by
  have hn := nil_u32
  cases a with
  | some ad =>
    go_enter Tryz.func134, Tryz.ntmps134
    go_wp2_with (at_builtin; refine wpList_append_u32s rfl _ _ rfl w.heap.size _ [] rfl (Own.empty w _ (Nat.le_refl _)) (some ad) xs c rfl (h.kp ((Kp.refl w).alloc _)) (by simp; omega) (by simp) ?_; intro a2 c2 w2 hown2 hb2)
    go_ret
    obtain ⟨h5, h6, h7, h8⟩ := hown2.rd
    exact ⟨a2, c2, by simp, h8, h6, h7, ((Kp.refl w).alloc _).below.trans hb2⟩
  | none =>
  have hys : xs = [] := by
    rcases h.2 with h | ⟨b, o, h, _⟩
    · exact h
    · cases h
  subst hys
  go_enter Tryz.func134, Tryz.ntmps134
  go_wp2_with fail
  go_ret
  exact ⟨none, 0, rfl, .nil _ _, Nat.le_refl _, by unfold maxLen; omega, .refl _⟩
set_option maxHeartbeats 400000 in
theorem size_any (a : Option Addr) (xs : List Nat) (c : Nat) (w : World) (h : Rd w a xs) (hc : xs.length ≤ c) (hm : c ≤ maxLen) (hl : xs.length ≤ 1100000) :
    Calls Tryz.prog 58 #[.slice a xs.length c] w fun e w' => e = .returned (.int .i64 (bits (val xs))) ∧ w = w' := by
  have H := Lib.hid (bits_any a xs c w h hc hm hl)
  go_enter Tryz.func58, Tryz.ntmps58
  go_wp2_with (refine H.out.mono ?_; rintro e w2 ⟨rfl, rfl⟩)
  go_ret
  exact ⟨rfl, rfl⟩
set_option maxHeartbeats 400000 in
theorem trimmed_any (a : Option Addr) (xs : List Nat) (c : Nat) (w : World) (h : Rd w a xs) (hc : xs.length ≤ c) (hm : c ≤ maxLen) :
    Calls Tryz.prog 130 #[.slice a xs.length c] w fun e w' => e = .returned (.slice a (limbs (val xs)).length c) ∧ w = w' := by
  unfold maxLen at hm
  go_enter Tryz.func130, Tryz.ntmps130
  go_wp2
  go_loop [3] (fun x => ∃ n : Nat, n ≤ xs.length ∧ x = .int .i64 n ∧ ∀ i, n ≤ i → i < xs.length → nth xs i = 0) (fun x => (intOf x).toNat)
  case atStart => exact ⟨xs.length, Nat.le_refl _, rfl, fun i h1 h2 => by omega⟩
  case round =>
  obtain ⟨n, hn, rfl, hz⟩ := hrel
  have Hz := Lib.hid hz; clear hz
  by_cases h0 : n = 0
  · subst h0
    go_wp2
    go_ret
    have := trim_top h.lt32 hn Hz.out (by omega)
    rw [← this]
    exact ⟨rfl, rfl⟩
  obtain ⟨b, o, rfl, hcell⟩ := h.some (i := n - 1) (by omega)
  have hk := hcell (n - 1) (by omega)
  clear hcell
  by_cases hx : nth xs (n - 1) = 0
  rotate_left
  · have hx2 : ((nth xs (n - 1) : Int) == 0) = false := by simp; omega
    go_wp2
    go_ret
    have := trim_top h.lt32 hn Hz.out (fun _ => hx)
    rw [← this, List.length_take, Nat.min_eq_left hn]
    exact ⟨rfl, rfl⟩
  have hx2 : ((nth xs (n - 1) : Int) == 0) = true := by simp [hx]
  have Hx := Lib.hid hx; clear hx
  go_wp2
  go_round
  case measure => simp [intOf]; omega
  case rel =>
  refine ⟨n - 1, by omega, by congr 1; omega, fun i h1 h2 => ?_⟩
  by_cases hi : i = n - 1
  · rw [hi]; exact Hx.out
  exact Hz.out i (by omega) h2
theorem tz_add {x r : Nat} (h0 : x ≠ 0) (hx : x < 4294967296) : tz (x + 4294967296 * r) = tz x := by
  obtain ⟨h1, h2⟩ := oddp_spec h0
  have ht : tz x < 32 := by
    apply Classical.byContradiction; intro hn
    have h3 : 2 ^ 32 ≤ 2 ^ tz x := Nat.pow_le_pow_right (by decide) (by omega)
    have h4 : 1 * 2 ^ tz x ≤ oddp x * 2 ^ tz x := Nat.mul_le_mul_right _ (by omega)
    omega
  have e : x + 4294967296 * r = (oddp x + 2 ^ (32 - tz x) * r) * 2 ^ tz x := by
    rw [Nat.add_mul, ← h2, Nat.mul_right_comm, ← Nat.pow_add, show 32 - tz x + tz x = 32 from by omega]
  rw [e]
  refine tz_mul_pow ?_ _
  rw [show 32 - tz x = (31 - tz x) + 1 from by omega, Nat.pow_succ, Nat.mul_assoc, Nat.mul_left_comm, Nat.add_mul_mod_self_left]
  exact h1
theorem tz_limbs {xs : List Nat} {k : Nat} (h : Lt32 xs) (hk : k < xs.length) (hz : ∀ i, i < k → nth xs i = 0) (hx : nth xs k ≠ 0) : tz (val xs) = 32 * k + tz (nth xs k) := by
  have e := val_take_drop xs k (by omega)
  have e0 : val (xs.take k) = 0 := val_zeros fun i hi => by
    rw [List.length_take] at hi
    rw [nth_take (by omega)]; exact hz i (by omega)
  rw [e0, drop_eq_nth hk, val_cons, Nat.zero_add, pow32, Nat.mul_comm] at e
  rw [e, tz_shift (by omega), tz_add hx (h.nth k)]; omega
set_option maxHeartbeats 400000 in
theorem low_any (a : Option Addr) (xs : List Nat) (c : Nat) (w : World) (h : Rd w a xs) (hl : xs.length ≤ 1100000) (h0 : val xs ≠ 0) (hT : Tab w) :
    Calls Tryz.prog 131 #[.slice a xs.length c] w fun e w' => e = .returned (.int .i64 (tz (val xs))) ∧ w = w' := by
  have H0 := Lib.hid h0
  clear h0
  go_enter Tryz.func131, Tryz.ntmps131
  go_wp2_with fail
  go_loop [3, 8] (fun n x => ∃ k : Nat, k ≤ xs.length ∧ x = .int .i64 k ∧ n = .int .i64 (32 * k : Nat) ∧ ∀ i, i < k → nth xs i = 0) (fun _ x => xs.length - (intOf x).toNat)
  case atStart => exact ⟨0, Nat.zero_le _, rfl, rfl, fun i h1 => by omega⟩
  case round =>
  obtain ⟨k, hk, rfl, rfl, hz⟩ := hrel
  have Hz := Lib.hid hz; clear hz
  by_cases hlt : k < xs.length
  rotate_left
  · exfalso
    exact H0.out (val_zeros fun i hi => Hz.out i (by omega))
  obtain ⟨b, o, rfl, hcell⟩ := h.some hlt
  have hc1 := hcell k hlt
  have bx := h.lt32.nth k
  clear hcell
  by_cases hx : nth xs k = 0
  · have hx2 : ((nth xs k : Int) != 0) = false := by simp [hx]
    have Hx := Lib.hid hx; clear hx
    go_wp2_with fail
    go_round
    case measure => simp [intOf]; omega
    case rel =>
    refine ⟨k + 1, by omega, by go_num, by congr 1, fun i h1 => ?_⟩
    by_cases hi : i = k
    · rw [hi]; exact Hx.out
    exact Hz.out i (by omega)
  have hx2 : ((nth xs k : Int) != 0) = true := by simp; omega
  have Hr := Lib.hid (tz_limbs h.lt32 hlt Hz.out hx)
  have ht : tz (nth xs k) ≤ 32 := by
    have := bits_oddp hx
    have h2 := bits_le.2 (show nth xs k < 2 ^ 32 from bx)
    omega
  go_wp2_with fail
  refine (tz32_any _ _ hx bx hT).mono ?_
  rintro e w2 ⟨rfl, rfl⟩
  go_wp2_with fail
  go_ret
  exact ⟨ret_int (by rw [Hr.out]; omega), rfl⟩
end Go.Proofs.YtbhmhfnfceakoaaGreatDoor
