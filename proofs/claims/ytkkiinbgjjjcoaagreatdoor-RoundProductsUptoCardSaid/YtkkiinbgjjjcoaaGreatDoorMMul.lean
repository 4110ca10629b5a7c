/-
  Walks: natural.mul.
  Plain arithmetic of dyadic numbers, no program in sight.
  Walks: bits.Len32, LeadingZeros32, TrailingZeros32 (after the shelf's worked walks), natural.Bits.
-/
import Derived.Test.YtkkiinbgjjjcoaaGreatDoorMLong
import Derived.Test.YtkkiinbgjjjcoaaGreatDoorMNum
import Derived.Test.YtkkiinbgjjjcoaaGreatDoorMBase
import Derived.Lib.BitFns
import Derived.Lib.TrailingZeros
section
namespace Go.Proofs.YtkkiinbgjjjcoaaGreatDoor
open Go.RowKit

theorem mul_step {zs : List Nat} {j s c V W x y : Nat} (hj : j < zs.length) (h : val zs + 4294967296 ^ j * c = V + W) (hs : s = x * y + nth zs j + c) :
    val (zs.set j (s % 4294967296)) + 4294967296 ^ (j + 1) * (s / 4294967296) = V + (W + 4294967296 ^ j * (x * y)) := by
  have h1 := val_set (x := s % 4294967296) hj
  rw [Nat.pow_succ, Nat.mul_assoc]
  generalize 4294967296 ^ j = P at *
  have e : P * (s % 4294967296) + P * (4294967296 * (s / 4294967296)) = P * s := by
    rw [← Nat.mul_add]; congr 1; omega
  have e2 : P * s = P * (x * y) + P * nth zs j + P * c := by rw [hs, Nat.mul_add, Nat.mul_add]
  omega
theorem mul_last {zs : List Nat} {j c V W : Nat} (hj : j < zs.length) (h0 : nth zs j = 0) (h : val zs + 4294967296 ^ j * c = V + W) : val (zs.set j c) = V + W := by
  have h1 := val_set (x := c) hj
  rw [h0] at h1
  omega
theorem prodN {x y : Nat} (hx : x < 4294967296) (hy : y < 4294967296) : x * y ≤ 18446744065119617025 := Nat.mul_le_mul (show x ≤ 4294967295 by omega) (show y ≤ 4294967295 by omega)
theorem cast_div3 (x y z c : Nat) : ((x : Int) * y + z + c) / 4294967296 = (((x * y + z + c) / 4294967296 : Nat) : Int) := by
  rw [Int.natCast_ediv, Int.natCast_add, Int.natCast_add, Int.natCast_mul]; rfl
theorem cast_mod3 (x y z c : Nat) : ((x : Int) * y + z + c) % 4294967296 = (((x * y + z + c) % 4294967296 : Nat) : Int) := by
  rw [Int.natCast_emod, Int.natCast_add, Int.natCast_add, Int.natCast_mul]; rfl
theorem prod32 {x y : Nat} (hx : x < 4294967296) (hy : y < 4294967296) : (x : Int) * y ≤ 18446744065119617025 := by
  have : x * y ≤ 4294967295 * 4294967295 := Nat.mul_le_mul (by omega) (by omega)
  have : ((x * y : Nat) : Int) ≤ ((4294967295 * 4294967295 : Nat) : Int) := by exact_mod_cast this
  simpa using this

set_option maxHeartbeats 1000000 in
theorem mul_any (a b : Option Addr) (xs ys : List Nat) (c d : Nat) (w : World) (hx : Rd w a xs) (hy : Rd w b ys) (hxl : xs.length ≤ 1000) (hyl : ys.length ≤ 1000) :
    Calls Tryz.prog 66 #[.slice a xs.length c, .slice b ys.length d] w (MadeV w (val xs * val ys) (xs.length + ys.length)) := by
  go_enter Tryz.func66, Tryz.ntmps66
  have hmk := make_u32 ((xs.length : Int) + ys.length) (xs.length + ys.length) (by omega) (by omega)
  go_wp2
  clear hmk
  go_loopw [20] (fun ix wr => ∃ (i : Nat) (zs : List Nat), i ≤ xs.length ∧ ix = .int .i64 i ∧ zs.length = xs.length + ys.length ∧ Blk wr w.heap.size zs ∧ Lt32 zs ∧
      val zs = val (xs.take i) * val ys ∧ (∀ j, i + ys.length ≤ j → nth zs j = 0) ∧ Kp w wr) (fun ix _ => xs.length - (intOf ix).toNat)
  case atStart => exact ⟨0, _, Nat.zero_le _, rfl, by simp, Blk.made _ _, .replicate _, by simp [val, val_replicate], fun j _ => nth_replicate _ _, (Kp.refl _).alloc _⟩
  case round =>
    obtain ⟨i, zs, hi, rfl, hzl, hb, hz32, hvz, hzero, hkp⟩ := hrel
    have Hvz := Lib.hid hvz
    have Hzl := Lib.hid hzl
    have Hzero := Lib.hid hzero
    clear hvz hzero
    by_cases hlt : i < xs.length
    · obtain ⟨b1, o1, rfl, hcx⟩ := (hx.kp hkp).some hlt
      have hx1 := hcx i hlt
      have bx := hx.lt32.nth i
      clear hcx
      go_wp2
      obtain ⟨wo, hwo⟩ : ∃ wo : World, wo = wr := ⟨_, rfl⟩
      subst hwo
      go_loopw [8, 27] (fun cy ix wr => ∃ (k c : Nat) (us : List Nat), k ≤ ys.length ∧ ix = .int .i64 k ∧ cy = .int .u64 c ∧ c < 4294967296 ∧ us.length = xs.length + ys.length ∧ Blk wr w.heap.size us ∧ Lt32 us ∧
        val us + 4294967296 ^ (i + k) * c = val zs + 4294967296 ^ i * (nth xs i * val (ys.take k)) ∧ (∀ j, i + ys.length ≤ j → nth us j = 0) ∧ Kp w wr) (fun _ ix _ => ys.length - (intOf ix).toNat)
      case atStart => exact ⟨0, 0, zs, Nat.zero_le _, rfl, rfl, by omega, Hzl.out, hb, hz32, by simp [val], Hzero.out, hkp⟩
      case round =>
        obtain ⟨k, cy, us, hk, rfl, rfl, hcy, hul, hb, hu32, hvu, huz, hkp⟩ := hrel
        have Hvu := Lib.hid hvu
        have Hul := Lib.hid hul
        have Huz := Lib.hid huz
        clear hvu huz
        by_cases hlt2 : k < ys.length
        · obtain ⟨b2, o2, rfl, hcy2⟩ := (hy.kp hkp).some hlt2
          have hy1 := hcy2 k hlt2
          have by' := hy.lt32.nth k
          have bu := hu32.nth (i + k)
          have hs1 := hb.cell (i := i + k) (by omega)
          have hs2 := hb.frozen (i + k)
          have hp1 := prod32 bx by'
          have hp0 : 0 ≤ (nth xs i : Int) * nth ys k := Int.mul_nonneg (by omega) (by omega)
          clear hcy2
          have hq1 := prodN bx by'
          have Hst := Lib.hid (mul_step (zs := us) (j := i + k) (x := nth xs i) (y := nth ys k) (by omega) Hvu.out rfl)
          go_wp2
          go_roundw
          case rel =>
            refine ⟨k + 1, (nth xs i * nth ys k + nth us (i + k) + cy) / 4294967296, us.set (i + k) ((nth xs i * nth ys k + nth us (i + k) + cy) % 4294967296), by omega, by go_num, by rw [cast_div3], by omega, by simp [Hul.out], hb.put (cast_mod3 _ _ _ _), hu32.set _ _ (by omega), ?_, fun j hj => ?_, hkp.set (Nat.le_refl _) _⟩
            · rw [show i + (k + 1) = i + k + 1 from by omega, Hst.out, val_take_step ys, Nat.mul_add, Nat.mul_add, Nat.pow_add]
              congr 2
              rw [Nat.mul_assoc, Nat.mul_left_comm (nth xs i)]
            · rw [nth_set_ne (by omega)]; exact Huz.out j hj
          case measure => simp [intOf]; omega
        · have hke : k = ys.length := by omega
          have hs1 := hb.cell (i := i + ys.length) (by omega)
          have hs2 := hb.frozen (i + ys.length)
          have Hlast := Lib.hid (mul_last (zs := us) (j := i + ys.length) (c := cy) (V := val zs) (W := 4294967296 ^ i * (nth xs i * val (ys.take k))) (by omega) (Huz.out _ (Nat.le_refl _)) (by have := Hvu.out; rwa [hke] at this ⊢))
          have Hke := Lib.hid hke
          clear hke
          go_wp2
          go_roundw
          case rel =>
            refine ⟨i + 1, us.set (i + ys.length) cy, by omega, by go_num, by simp [Hul.out], hb.put (by omega), hu32.set _ _ hcy, ?_, fun j hj => ?_, hkp.set (Nat.le_refl _) _⟩
            · rw [Hlast.out, Hvz.out, Hke.out, List.take_of_length_le (Nat.le_refl _), val_take_step xs, Nat.add_mul, Nat.mul_assoc]
            · rw [nth_set_ne (by omega)]; exact Huz.out j (by omega)
          case measure => simp [intOf]; omega
    · go_wp2
      go_ret
      have hke : i = xs.length := by omega
      have e2 := Hvz.out
      rw [hke, List.take_of_length_le (Nat.le_refl _)] at e2
      exact ⟨w.heap.size, zs, rfl, Hzl.out, e2, hb.rd hz32, hkp⟩
end Go.Proofs.YtkkiinbgjjjcoaaGreatDoor
end

section
namespace Go.Proofs.YtkkiinbgjjjcoaaGreatDoor

/-- the number of factors 2 of a number that is not 0 -/
def tz (n : Nat) : Nat := if n = 0 then 0 else if n % 2 = 1 then 0 else tz (n / 2) + 1
termination_by n
decreasing_by omega

theorem tz_odd {n : Nat} (h : n % 2 = 1) : tz n = 0 := by rw [tz]; split <;> simp_all
theorem tz_even {n : Nat} (h0 : n ≠ 0) (h : n % 2 = 0) : tz n = tz (n / 2) + 1 := by rw [tz]; rw [if_neg h0, if_neg (by omega)]
theorem tz_zero : tz 0 = 0 := by rw [tz]; simp

/-- the odd part -/
def oddp (n : Nat) : Nat := n / 2 ^ tz n

theorem tz_spec (n : Nat) (h : n ≠ 0) : ∃ m, m % 2 = 1 ∧ n = m * 2 ^ tz n := by
  induction n using Nat.strongRecOn with
  | _ n ih =>
    by_cases h1 : n % 2 = 1
    · exact ⟨n, h1, by rw [tz_odd h1]; simp⟩
    · obtain ⟨m, hm, e⟩ := ih (n / 2) (by omega) (by omega)
      refine ⟨m, hm, ?_⟩
      rw [tz_even h (by omega), Nat.pow_succ, ← Nat.mul_assoc, ← e]; omega
theorem oddp_spec {n : Nat} (h : n ≠ 0) : oddp n % 2 = 1 ∧ n = oddp n * 2 ^ tz n := by
  obtain ⟨m, hm, e⟩ := tz_spec n h
  have : oddp n = m := by
    unfold oddp
    conv => lhs; lhs; rw [e]
    exact Nat.mul_div_cancel _ (Nat.pow_pos (by decide))
  rw [this]; exact ⟨hm, e⟩
theorem odd_pow_unique {m m' a b : Nat} (hm : m % 2 = 1) (hm' : m' % 2 = 1) (h : m * 2 ^ a = m' * 2 ^ b) : m = m' ∧ a = b := by
  induction a generalizing b with
  | zero =>
    cases b with
    | zero => simpa using h
    | succ b =>
      exfalso
      rw [Nat.pow_succ, ← Nat.mul_assoc] at h
      simp at h; omega
  | succ a ih =>
    cases b with
    | zero =>
      exfalso
      rw [Nat.pow_succ, ← Nat.mul_assoc] at h
      simp at h; omega
    | succ b =>
      rw [Nat.pow_succ, Nat.pow_succ, ← Nat.mul_assoc, ← Nat.mul_assoc] at h
      have := ih (b := b) (by omega)
      exact ⟨this.1, by omega⟩
theorem tz_mul_pow {m : Nat} (hm : m % 2 = 1) (k : Nat) : tz (m * 2 ^ k) = k := by
  have hne : m * 2 ^ k ≠ 0 := Nat.mul_ne_zero (by omega) (Nat.ne_of_gt (Nat.pow_pos (by decide)))
  obtain ⟨h1, h2⟩ := oddp_spec hne
  exact (odd_pow_unique hm h1 h2).2.symm
theorem oddp_mul_pow {m : Nat} (hm : m % 2 = 1) (k : Nat) : oddp (m * 2 ^ k) = m := by
  have hne : m * 2 ^ k ≠ 0 := Nat.mul_ne_zero (by omega) (Nat.ne_of_gt (Nat.pow_pos (by decide)))
  obtain ⟨h1, h2⟩ := oddp_spec hne
  exact (odd_pow_unique hm h1 h2).1.symm
theorem oddp_odd {m : Nat} (hm : m % 2 = 1) : oddp m = m := by simpa using oddp_mul_pow hm 0
theorem oddp_ne_zero {n : Nat} (h : n ≠ 0) : oddp n ≠ 0 := by have := (oddp_spec h).1; omega
theorem bits_oddp {n : Nat} (h : n ≠ 0) : bits n = bits (oddp n) + tz n := by
  conv => lhs; rw [(oddp_spec h).2]
  exact bits_mul_pow (oddp_ne_zero h)
theorem tz_shift {n : Nat} (h : n ≠ 0) (k : Nat) : tz (n * 2 ^ k) = tz n + k := by
  have h1 := oddp_spec h
  conv => lhs; rw [h1.2, Nat.mul_assoc, ← Nat.pow_add]
  exact tz_mul_pow h1.1 _
theorem oddp_shift {n : Nat} (h : n ≠ 0) (k : Nat) : oddp (n * 2 ^ k) = oddp n := by
  have h1 := oddp_spec h
  conv => lhs; rw [h1.2, Nat.mul_assoc, ← Nat.pow_add]
  exact oddp_mul_pow h1.1 _

/-- a dyadic number (-1)^neg m 2^e -/
structure Dy where
  neg : Bool
  m : Nat
  e : Int
deriving DecidableEq

/-- zero -/
def Dy.zero : Dy := ⟨false, 0, 0⟩
/-- canonical and in range -/
def Dy.ok (d : Dy) : Prop :=
  (d.m = 0 ∧ d.neg = false ∧ d.e = 0) ∨ (d.m % 2 = 1 ∧ bits d.m ≤ 4096 ∧ -16384 ≤ d.e ∧ d.e ≤ 16384 ∧ bits d.m + d.e ≤ 16384)
instance (d : Dy) : Decidable d.ok := by unfold Dy.ok; exact inferInstance
/-- a sign -/
def sg (neg : Bool) (n : Nat) : Int := if neg then -(n : Int) else n
/-- the number times 2^16384 -/
def Dy.iv (d : Dy) : Int := sg d.neg (d.m * 2 ^ (d.e + 16384).toNat)
theorem Dy.ok_zero : Dy.zero.ok := .inl ⟨rfl, rfl, rfl⟩
theorem sg_inj {s t : Bool} {m n : Nat} (hm : m ≠ 0) (h : sg s m = sg t n) : s = t ∧ m = n := by
  unfold sg at h
  cases s <;> cases t <;> simp at h ⊢ <;> omega
theorem sg_zero (s : Bool) : sg s 0 = 0 := by unfold sg; cases s <;> rfl
theorem sg_eq_zero {s : Bool} {n : Nat} : sg s n = 0 ↔ n = 0 := by unfold sg; cases s <;> simp
theorem Dy.iv_zero : Dy.zero.iv = 0 := by
  unfold Dy.iv Dy.zero; simp only [Nat.zero_mul, sg_zero]
theorem Dy.iv_eq_zero {d : Dy} : d.iv = 0 ↔ d.m = 0 := by
  unfold Dy.iv; rw [sg_eq_zero]
  constructor
  · intro h
    rcases Nat.mul_eq_zero.1 h with h | h
    · exact h
    · exact absurd h (Nat.ne_of_gt (Nat.pow_pos (by decide)))
  · intro h; rw [h]; simp
theorem Dy.eq_zero {d : Dy} (h : d.ok) (h0 : d.m = 0) : d = Dy.zero := by
  rcases h with ⟨h1, h2, h3⟩ | ⟨h1, _⟩
  · cases d; simp_all [Dy.zero]
  · omega
theorem Dy.iv_inj {a b : Dy} (ha : a.ok) (hb : b.ok) (h : a.iv = b.iv) : a = b := by
  by_cases h0 : a.m = 0
  · have hb0 : b.m = 0 := by rw [← Dy.iv_eq_zero, ← h, Dy.iv_eq_zero]; exact h0
    rw [a.eq_zero ha h0, b.eq_zero hb hb0]
  · have hb0 : b.m ≠ 0 := by rw [Ne, ← Dy.iv_eq_zero, ← h, Dy.iv_eq_zero]; exact h0
    rcases ha with ⟨h1, _⟩ | ⟨a1, a2, a3, a4, a5⟩
    · exact absurd h1 h0
    rcases hb with ⟨h1, _⟩ | ⟨b1, b2, b3, b4, b5⟩
    · exact absurd h1 hb0
    obtain ⟨e1, e2⟩ := sg_inj (Nat.mul_ne_zero h0 (Nat.ne_of_gt (Nat.pow_pos (by decide)))) h
    obtain ⟨e3, e4⟩ := odd_pow_unique a1 b1 e2
    cases a; cases b; simp_all; omega

/-- the canonical form of (-1)^neg n 2^e -/
def canon (neg : Bool) (n : Nat) (e : Int) : Dy := if n = 0 then .zero else ⟨neg, oddp n, e + tz n⟩
theorem canon_zero (neg : Bool) (e : Int) : canon neg 0 e = .zero := rfl
theorem canon_shift (neg : Bool) (n k : Nat) (e : Int) : canon neg (n * 2 ^ k) e = canon neg n (e + k) := by
  unfold canon
  by_cases h : n = 0
  · subst h; simp
  · rw [if_neg h, if_neg (Nat.mul_ne_zero h (Nat.ne_of_gt (Nat.pow_pos (by decide)))), oddp_shift h, tz_shift h]
    congr 1; omega
theorem canon_ok {d : Dy} (h : d.ok) : canon d.neg d.m d.e = d := by
  unfold canon
  split
  · next h0 => exact (d.eq_zero h h0).symm
  · next h0 =>
    rcases h with ⟨h1, _⟩ | ⟨h1, _⟩
    · exact absurd h1 h0
    · rw [oddp_odd h1, tz_odd h1]; cases d; simp
theorem canon_iv (neg : Bool) (n : Nat) (e : Int) (h : -16384 ≤ e) : (canon neg n e).iv = sg neg (n * 2 ^ (e + 16384).toNat) := by
  unfold canon
  split
  · next h0 => subst h0; rw [Dy.iv_zero]; simp [sg_zero]
  · next h0 =>
    unfold Dy.iv
    simp only []
    congr 1
    conv => rhs; rw [(oddp_spec h0).2]
    rw [Nat.mul_assoc, ← Nat.pow_add]
    congr 2; omega
/-- the canonical form is in range -/
def inr (d : Dy) : Prop := d.m = 0 ∨ (bits d.m ≤ 4096 ∧ -16384 ≤ d.e ∧ d.e ≤ 16384 ∧ bits d.m + d.e ≤ 16384)
instance (d : Dy) : Decidable (inr d) := by unfold inr; exact inferInstance
theorem canon_ok_iff (neg : Bool) (n : Nat) (e : Int) : (canon neg n e).ok ↔ inr (canon neg n e) := by
  unfold canon
  split
  · exact ⟨fun _ => .inl rfl, fun _ => Dy.ok_zero⟩
  · next h0 =>
    have h1 := oddp_spec h0
    unfold Dy.ok inr
    simp only []
    constructor
    · rintro (⟨h, _⟩ | ⟨_, h⟩)
      · exact absurd h (oddp_ne_zero h0)
      · exact .inr h
    · rintro (h | h)
      · exact absurd h (oddp_ne_zero h0)
      · exact .inr ⟨h1.1, h⟩

end Go.Proofs.YtkkiinbgjjjcoaaGreatDoor
end

section
namespace Go.Proofs.YtkkiinbgjjjcoaaGreatDoor
open Go.RowKit

theorem bits_half {x : Nat} (h : x ≠ 0) : bits x = 1 + bits (x / 2) := by
  apply bits_unique
  · have := lt_two_pow_bits (x / 2)
    rw [Nat.pow_add]; omega
  · right
    by_cases h2 : x / 2 = 0
    · rw [h2]; simp [bits_zero]; omega
    · have := two_pow_le_of_bits h2
      have h3 := bits_pos h2
      rw [show 1 + bits (x / 2) - 1 = (bits (x / 2) - 1) + 1 from by omega, Nat.pow_succ]; omega
theorem bitLenAux_eq : ∀ (f x : Nat), x < 2 ^ f → Lib.bitLenAux f x = bits x
  | 0, x, h => by
    have : x = 0 := by simpa using h
    subst this; rfl
  | f + 1, x, h => by
    unfold Lib.bitLenAux
    by_cases h0 : x = 0
    · subst h0; rfl
    · rw [if_neg h0, bits_half h0, bitLenAux_eq f (x / 2) (by rw [Nat.pow_succ] at h; omega)]
theorem bitLen_eq {x : Nat} (h : x < 4294967296) : Lib.bitLen x = bits x :=
  bitLenAux_eq 64 x (Nat.lt_of_lt_of_le (show x < 2 ^ 32 from h) (Nat.pow_le_pow_right (by decide) (by decide)))

theorem tab_at (b : Int) (h0 : 0 ≤ b) (h1 : b ≤ 255) (h : b.toNat < Lib.len8tab.size) : ((Lib.len8tab[b.toNat]).toNat : Int) = (Lib.bitLen b.toNat : Int) := by
  rw [← Lib.len8_of b h0 h1]
  unfold Lib.len8
  rw [ByteArray.getElem?_lt' _ _ h, Option.getD_some]
theorem len_wrap (n k : Int) (h0 : 0 ≤ n) (h1 : n ≤ 8) (k0 : 0 ≤ k) (k1 : k ≤ 24) : wrap64 (k + wrap64 n) = k + n := by
  rw [IntWalk.wrap64_in n ⟨by omega, by omega⟩, IntWalk.wrap64_in (k + n) ⟨by omega, by omega⟩]
theorem len_wrap0 (n : Int) (h0 : 0 ≤ n) (h1 : n ≤ 8) : wrap64 (wrap64 n) = n := by
  rw [IntWalk.wrap64_in n ⟨by omega, by omega⟩, IntWalk.wrap64_in n ⟨by omega, by omega⟩]
set_option maxHeartbeats 4000000 in
set_option maxRecDepth 100000 in
theorem len32_raw (x : Int) (w : World) (h0 : 0 ≤ x) (h1 : x ≤ 4294967295) :
    Calls Tryz.prog 87 #[.int .u32 x] w fun e w' => e = .returned (.int .i64 (Lib.bitLen x.toNat)) ∧ w' = w := by
  have hsz : (Lib.len8tab.size : Int) = 256 := by rw [Lib.len8tab_size]; rfl
  go_enter Tryz.func87, Tryz.ntmps87
  go_wp2
  all_goals (go_ret; refine ⟨congrArg Ending.returned (congrArg (Value.int IntKind.i64) ?_), rfl⟩)
  · have l := Lib.bitLen_le8' (x / 65536 / 256) (by omega) (by omega)
    refine (len_wrap _ 24 (Int.natCast_nonneg _) (by rw [tab_at _ (by omega) (by omega)]; omega) (by omega) (by omega)).trans ?_
    rw [tab_at _ (by omega) (by omega)]
    have e : (x / 65536 / 256).toNat = x.toNat / 16777216 := by omega
    have s := Lib.bitLen_shift24 x.toNat (by omega) (by omega)
    rw [e] at l ⊢
    omega
  · have l := Lib.bitLen_le8' (x / 65536) (by omega) (by omega)
    refine (len_wrap _ 16 (Int.natCast_nonneg _) (by rw [tab_at _ (by omega) (by omega)]; omega) (by omega) (by omega)).trans ?_
    rw [tab_at _ (by omega) (by omega)]
    have e : (x / 65536).toNat = x.toNat / 65536 := by omega
    have s := Lib.bitLen_shift16 x.toNat (by omega) (by omega)
    rw [e] at l ⊢
    omega
  · have l := Lib.bitLen_le8' (x / 256) (by omega) (by omega)
    refine (len_wrap _ 8 (Int.natCast_nonneg _) (by rw [tab_at _ (by omega) (by omega)]; omega) (by omega) (by omega)).trans ?_
    rw [tab_at _ (by omega) (by omega)]
    have e : (x / 256).toNat = x.toNat / 256 := by omega
    have s := Lib.bitLen_shift8 x.toNat (by omega) (by omega)
    rw [e] at l ⊢
    omega
  · have l := Lib.bitLen_le8' x (by omega) (by omega)
    refine (len_wrap0 _ (Int.natCast_nonneg _) (by rw [tab_at _ (by omega) (by omega)]; omega)).trans ?_
    rw [tab_at _ (by omega) (by omega)]
theorem len32_any (x : Nat) (w : World) (h : x < 4294967296) :
    Calls Tryz.prog 87 #[.int .u32 x] w fun e w' => e = .returned (.int .i64 (bits x)) ∧ w = w' := by
  have := len32_raw x w (by omega) (by omega)
  rw [Int.toNat_natCast, bitLen_eq h] at this
  exact this.mono fun e w' ⟨h1, h2⟩ => ⟨h1, h2.symm⟩

set_option maxHeartbeats 400000 in
theorem lz32_any (x : Nat) (w : World) (h : x < 4294967296) :
    Calls Tryz.prog 104 #[.int .u32 x] w fun e w' => e = .returned (.int .i64 (32 - bits x : Nat)) ∧ w = w' := by
  have hb : bits x ≤ 32 := bits_le.2 h
  go_enter Tryz.func104, Tryz.ntmps104
  go_wp2_with (refine (len32_any _ _ h).mono ?_; rintro e w2 ⟨rfl, rfl⟩)
  go_ret
  exact ⟨ret_int (by omega), rfl⟩

/-- the library's table lies in its variable -/
def Tab (w : World) : Prop := ∀ j, j < 32 → w.cell? ⟨1, j, none⟩ = some (.int .u8 (Lib.deBruijn32tab.getD j 0))
theorem Tab.kp {w w' : World} (h : Tab w) (k : Kp w w') : Tab w' := fun j hj => k.cell (h j hj)

theorem ctzFrom_tz : ∀ (f x : Nat), x ≠ 0 → x < 2 ^ f → Lib.ctzFrom f x = tz x
  | 0, x, h0, h => by have : x = 0 := by simpa using h
                      exact absurd this h0
  | f + 1, x, h0, h => by
    unfold Lib.ctzFrom
    by_cases h1 : x % 2 = 1
    · rw [if_pos h1, tz_odd h1]
    · rw [if_neg h1, tz_even h0 (by omega), ctzFrom_tz f (x / 2) (by omega) (by rw [Nat.pow_succ] at h; omega), Nat.add_comm]
theorem ctz_tz {x : Nat} (h0 : x ≠ 0) (h : x < 4294967296) : Lib.ctz 32 x = tz x := by
  unfold Lib.ctz; rw [if_neg h0]; exact ctzFrom_tz 32 x h0 h

theorem tz32_key (x a : Nat) (hx : x < 4294967296) (hx0 : x ≠ 0) (hlow : x &&& (4294967296 - x) = a) :
    Go.bits BinOp.and IntKind.u32 (x : Int) (-(x : Int) % 4294967296) * 125613361 % 4294967296 / 134217728 = ((a * 125613361 % 4294967296 / 134217728 : Nat) : Int) := by
  have e1 : -(x : Int) % 4294967296 = ((4294967296 - x : Nat) : Int) := by omega
  rw [e1, u32_and_nat x _ hx (by omega), hlow]
  omega
set_option maxHeartbeats 1000000 in
theorem tz32_core (x k idx : Nat) (w : World) (hx0 : ((x : Int) == 0) = false)
    (key : Go.bits BinOp.and IntKind.u32 (x : Int) (-(x : Int) % 4294967296) * 125613361 % 4294967296 / 134217728 = (idx : Int))
    (hi : idx < 32) (hk : k < 32) (hcell : w.cell? ⟨1, idx, none⟩ = some (.int .u8 k)) :
    Calls Tryz.prog 115 #[.int .u32 x] w fun e w' => e = .returned (.int .i64 k) ∧ w = w' := by
  go_enter Tryz.func115, Tryz.ntmps115
  go_wp2_with (simp only [key])
  go_ret
  exact ⟨rfl, rfl⟩
theorem tz32_any (x : Nat) (w : World) (hx0 : x ≠ 0) (hx : x < 4294967296) (hT : Tab w) :
    Calls Tryz.prog 115 #[.int .u32 x] w fun e w' => e = .returned (.int .i64 (tz x)) ∧ w = w' := by
  obtain ⟨hlow, hk⟩ := Lib.lowest_bit 32 x hx0 hx
  obtain ⟨hi, htab⟩ := Lib.deBruijn32_at _ hk
  have hcell := hT _ hi
  rw [htab] at hcell
  have := tz32_core x _ _ w (by simp; omega) (tz32_key x _ hx hx0 hlow) hi hk hcell
  rwa [ctz_tz hx0 hx] at this
end Go.Proofs.YtkkiinbgjjjcoaaGreatDoor
end
