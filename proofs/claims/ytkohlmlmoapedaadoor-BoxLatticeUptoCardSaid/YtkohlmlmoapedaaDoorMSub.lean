/-
  Walks: bits.Sub32, natural.sub.
  Walks: natural.mul.
  Plain arithmetic of dyadic numbers, no program in sight.
-/
import Derived.Test.YtkohlmlmoapedaaDoorMIdx
import Derived.Test.YtkohlmlmoapedaaDoorMNum
section
namespace Go.Proofs.YtkohlmlmoapedaaDoor
open Go.RowKit

theorem div_or (a b k : Nat) : (a ||| b) / 2 ^ k = a / 2 ^ k ||| b / 2 ^ k := by
  rw [← Nat.shiftRight_eq_div_pow, ← Nat.shiftRight_eq_div_pow, ← Nat.shiftRight_eq_div_pow, Nat.shiftRight_or_distrib]
theorem div_and (a b k : Nat) : (a &&& b) / 2 ^ k = a / 2 ^ k &&& b / 2 ^ k := by
  rw [← Nat.shiftRight_eq_div_pow, ← Nat.shiftRight_eq_div_pow, ← Nat.shiftRight_eq_div_pow, Nat.shiftRight_and_distrib]
theorem div_xor (a b k : Nat) : (a ^^^ b) / 2 ^ k = a / 2 ^ k ^^^ b / 2 ^ k := by
  rw [← Nat.shiftRight_eq_div_pow, ← Nat.shiftRight_eq_div_pow, ← Nat.shiftRight_eq_div_pow, Nat.shiftRight_xor_distrib]
theorem lt_xor32 {a b : Nat} (ha : a < 4294967296) (hb : b < 4294967296) : a ^^^ b < 4294967296 := Nat.xor_lt_two_pow (n := 32) ha hb
theorem lt_and32 {a b : Nat} (hb : b < 4294967296) : a &&& b < 4294967296 := Nat.lt_of_le_of_lt Nat.and_le_right hb
theorem lt_or32 {a b : Nat} (ha : a < 4294967296) (hb : b < 4294967296) : a ||| b < 4294967296 := Nat.or_lt_two_pow (n := 32) ha hb

/-- the borrow -/
def bor (x y c : Int) : Int := if x < y + c then 1 else 0
theorem bor_val (x y c : Int) : 0 ≤ bor x y c ∧ bor x y c ≤ 1 := by unfold bor; split <;> omega
theorem bor_nat {x y c d : Nat} (hx : x < 4294967296) (hy : y < 4294967296) (hc : c ≤ 1) (_hd : d < 4294967296) (he : (d : Int) = ((x : Int) - y - c) % 4294967296) :
    ((((4294967295 ^^^ x) &&& y) ||| ((4294967295 ^^^ (x ^^^ y)) &&& d)) / 2147483648 : Nat) = if x < y + c then 1 else 0 := by
  rw [show (2147483648 : Nat) = 2 ^ 31 from rfl, div_or, div_and, div_and, div_xor, div_xor, div_xor]
  have ex : x / 2 ^ 31 = 0 ∨ x / 2 ^ 31 = 1 := by omega
  have ey : y / 2 ^ 31 = 0 ∨ y / 2 ^ 31 = 1 := by omega
  have ed : d / 2 ^ 31 = 0 ∨ d / 2 ^ 31 = 1 := by omega
  have em : 4294967295 / 2 ^ 31 = 1 := by decide
  rw [em]
  rcases ex with ex | ex <;> rcases ey with ey | ey <;> rcases ed with ed | ed <;> rw [ex, ey, ed] <;> simp <;> omega
theorem bor_bits (x y c d : Int) (hx0 : 0 ≤ x) (hx : x < 4294967296) (hy0 : 0 ≤ y) (hy : y < 4294967296) (hc0 : 0 ≤ c) (hc : c ≤ 1) (he : d = (x - y - c) % 4294967296) :
    Go.bits BinOp.or IntKind.u32 (Go.bits BinOp.and IntKind.u32 (Go.bits BinOp.xor IntKind.u32 IntKind.u32.max x) y)
      (Go.bits BinOp.and IntKind.u32 (Go.bits BinOp.xor IntKind.u32 IntKind.u32.max (Go.bits BinOp.xor IntKind.u32 x y)) d) / 2147483648 = bor x y c := by
  obtain ⟨x, rfl⟩ := Int.eq_ofNat_of_zero_le hx0
  obtain ⟨y, rfl⟩ := Int.eq_ofNat_of_zero_le hy0
  obtain ⟨c, rfl⟩ := Int.eq_ofNat_of_zero_le hc0
  obtain ⟨d, rfl⟩ : ∃ n : Nat, d = n := ⟨d.toNat, by omega⟩
  have hx' : x < 4294967296 := by omega
  have hy' : y < 4294967296 := by omega
  have hd' : d < 4294967296 := by omega
  have em : IntKind.u32.max = ((4294967295 : Nat) : Int) := by decide
  rw [em, u32_xor_nat _ _ (by decide) hx', u32_xor_nat _ _ hx' hy', u32_and_nat _ _ (lt_xor32 (by decide) hx') hy',
    u32_xor_nat _ _ (by decide) (lt_xor32 hx' hy'), u32_and_nat _ _ (lt_xor32 (by decide) (lt_xor32 hx' hy')) hd',
    u32_or_nat _ _ (lt_and32 hy') (lt_and32 hd')]
  have := bor_nat (c := c) hx' hy' (by omega) hd' he
  unfold bor
  rw [show (2147483648 : Int) = ((2147483648 : Nat) : Int) from rfl, ← Int.natCast_ediv, this]
  split <;> split <;> omega

set_option maxHeartbeats 400000 in
theorem sub32_any (x y c : Int) (w : World) (hx0 : 0 ≤ x) (hx : x < 4294967296) (hy0 : 0 ≤ y) (hy : y < 4294967296) (hc0 : 0 ≤ c) (hc : c ≤ 1) :
    Calls Tryd.prog 103 #[.int .u32 x, .int .u32 y, .int .u32 c] w fun e w' =>
      e = .returned (.tuple #[.int .u32 ((x - y - c) % 4294967296), .int .u32 (bor x y c)]) ∧ w = w' := by
  have Hb := Lib.hid (bor_bits x y c _ hx0 hx hy0 hy hc0 hc rfl)
  go_enter Tryd.func103, Tryd.ntmps103
  go_wp2
  all_goals go_ret2
  all_goals exact ⟨ret_two32 rfl Hb.out, rfl⟩

theorem bor_eq {x y c : Nat} {z : Nat} (hx : x < 4294967296) (hy : y < 4294967296) (hc : c ≤ 1) (hz : (z : Int) = ((x : Int) - y - c) % 4294967296) : z + y + c = x + 4294967296 * (bor x y c).toNat := by
  unfold bor; split <;> omega

set_option maxHeartbeats 1000000 in
theorem sub_any (a b : Option Addr) (xs ys : List Nat) (c d : Nat) (w : World) (hx : Rd w a xs) (hy : Rd w b ys) (hxl : xs.length ≤ 1000) (hxc : xs.length ≤ c) (hyc : ys.length ≤ d) (hc : c ≤ maxLen) (hd : d ≤ maxLen) (hle : val ys ≤ val xs) :
    Calls Tryd.prog 98 #[.slice a xs.length c, .slice b ys.length d] w (MadeV w (val xs - val ys) (limbs (val xs)).length) := by
  have H1 := Lib.hid (trim_any a xs c w hx hxc hc)
  have H2 := Lib.hid (trim_any b ys d w hy hyc hd)
  have h1 := hx.limbs
  have h2 := hy.limbs
  have hl1 := limbs_len_le hx.lt32
  have hl2 : (limbs (val ys)).length ≤ (limbs (val xs)).length := limbs_length_le.2 (Nat.lt_of_le_of_lt hle (by have := val_lt (limbs_lt32 (val xs)); rwa [val_limbs] at this))
  have hv1 := val_limbs (val xs)
  have hv2 := val_limbs (val ys)
  have Hle := Lib.hid hle
  go_enter Tryd.func98, Tryd.ntmps98
  go_wp2_with fail
  refine H1.out.mono ?_
  rintro e w2 ⟨rfl, rfl⟩
  go_wp2_with fail
  refine H2.out.mono ?_
  rintro e w2 ⟨rfl, rfl⟩
  clear H1 H2 hx hy hle hc hd hxc hyc
  generalize limbs (val xs) = us at *
  generalize limbs (val ys) = vs at *
  have Hv1 := Lib.hid hv1
  have Hv2 := Lib.hid hv2
  clear hv1 hv2
  have hmk := make_u32 (us.length : Int) us.length rfl (by omega)
  go_wp2
  clear hmk
  go_loopw [6, 19] (fun cy ix wr => ∃ (k c : Nat) (zs : List Nat), k ≤ us.length ∧ ix = .int .i64 k ∧ cy = .int .u32 c ∧ c ≤ 1 ∧ zs.length = us.length ∧ Blk wr w.heap.size zs ∧ Lt32 zs ∧
      val (zs.take k) + val (vs.take k) = val (us.take k) + 4294967296 ^ k * c ∧ Kp w wr) (fun _ ix _ => us.length - (intOf ix).toNat)
  case atStart => exact ⟨0, 0, _, Nat.zero_le _, rfl, rfl, by omega, by simp, Blk.made _ _, .replicate _, by simp [val], (Kp.refl _).alloc _⟩
  case round =>
    obtain ⟨k, cy, zs, hk, rfl, rfl, hcy, hzl, hb, hz32, hvz, hkp⟩ := hrel
    have Hvz := Lib.hid hvz
    have Hzl := Lib.hid hzl
    clear hvz
    by_cases hlt : k < us.length
    · obtain ⟨b1, o1, rfl, hcx⟩ := (h1.kp hkp).some hlt
      have hx1 := hcx k hlt
      have bx := h1.lt32.nth k
      have by' := h2.lt32.nth k
      have hs1 := hb.cell (i := k) (by omega)
      have hs2 := hb.frozen k
      have hbv := bor_val (nth us k) (nth vs k) cy
      have Heq := Lib.hid (fun z h => bor_eq (z := z) bx by' hcy h)
      clear hcx
      by_cases hlt2 : k < vs.length
      · obtain ⟨b2, o2, rfl, hcy2⟩ := (h2.kp hkp).some hlt2
        have hy1 := hcy2 k hlt2
        clear hcy2
        go_wp2_with fail
        refine (sub32_any _ _ _ _ (by omega) (by omega) (by omega) (by omega) (by omega) (by omega)).mono ?_
        rintro e w2 ⟨rfl, rfl⟩
        go_wp2_with fail
        go_roundw
        case rel =>
          refine ⟨k + 1, (bor (nth us k) (nth vs k) cy).toNat, zs.set k (((nth us k : Int) - nth vs k - cy) % 4294967296).toNat, by omega, by go_num, by congr 1; omega, by omega, by simp [Hzl.out], hb.put (by omega), hz32.set _ _ (by omega), sub_step (by omega) Hvz.out (Heq.out _ (by omega)), hkp.set (Nat.le_refl _) _⟩
        case measure => simp [intOf]; omega
      · have hny : nth vs k = 0 := nth_ge (by omega)
        have Hny := Lib.hid hny
        clear hny
        have hbv := bor_val (nth us k) 0 cy
        go_wp2_with fail
        refine (sub32_any _ _ _ _ (by omega) (by omega) (by omega) (by omega) (by omega) (by omega)).mono ?_
        rintro e w2 ⟨rfl, rfl⟩
        go_wp2_with fail
        go_roundw
        case rel =>
          have hny := Hny.out
          refine ⟨k + 1, (bor (nth us k) (nth vs k) cy).toNat, zs.set k (((nth us k : Int) - nth vs k - cy) % 4294967296).toNat, by omega, by go_num, by rw [hny]; congr 1; simp; omega, by omega, by simp [Hzl.out], hb.put (by rw [hny]; simp; omega), hz32.set _ _ (by omega), sub_step (by omega) Hvz.out (Heq.out _ (by omega)), hkp.set (Nat.le_refl _) _⟩
        case measure => simp [intOf]; omega
    · go_wp2
      go_ret
      have hke : k = us.length := by omega
      have e2 := Hvz.out
      rw [hke, List.take_of_length_le (Nat.le_refl _), List.take_of_length_le hl2, List.take_of_length_le (by omega), Hv1.out, Hv2.out] at e2
      have e3 := val_lt hz32
      rw [Hzl.out] at e3
      have e4 := Hle.out
      have hc0 : cy = 0 := by
        rcases (show cy = 0 ∨ cy = 1 by omega) with h | h
        · exact h
        · subst h; omega
      subst hc0
      exact ⟨w.heap.size, zs, rfl, Hzl.out, by omega, hb.rd hz32, hkp⟩
end Go.Proofs.YtkohlmlmoapedaaDoor
end

section
namespace Go.Proofs.YtkohlmlmoapedaaDoor
open Go.RowKit

theorem mul_step {zs : List Nat} {j s c V W x y : Nat} (hj : j < zs.length) (h : val zs + 4294967296 ^ j * c = V + W) (hs : s = x * y + nth zs j + c) :
    val (zs.set j (s % 4294967296)) + 4294967296 ^ (j + 1) * (s / 4294967296) = V + (W + 4294967296 ^ j * (x * y)) := by
  have h1 := val_set (x := s % 4294967296) hj
  rw [Nat.pow_succ, Nat.mul_assoc]
  generalize 4294967296 ^ j = P at *
  have e : P * (s % 4294967296) + P * (4294967296 * (s / 4294967296)) = P * s := by
    rw [← Nat.mul_add]; congr 1; omega
  have e2 : P * s = P * (x * y) + P * nth zs j + P * c := by rw [hs, Nat.mul_add, Nat.mul_add]
  omega
theorem mul_last {zs : List Nat} {j c V W : Nat} (hj : j < zs.length) (h0 : nth zs j = 0) (h : val zs + 4294967296 ^ j * c = V + W) : val (zs.set j c) = V + W := by
  have h1 := val_set (x := c) hj
  rw [h0] at h1
  omega
theorem prodN {x y : Nat} (hx : x < 4294967296) (hy : y < 4294967296) : x * y ≤ 18446744065119617025 := Nat.mul_le_mul (show x ≤ 4294967295 by omega) (show y ≤ 4294967295 by omega)
theorem cast_div3 (x y z c : Nat) : ((x : Int) * y + z + c) / 4294967296 = (((x * y + z + c) / 4294967296 : Nat) : Int) := by
  rw [Int.natCast_ediv, Int.natCast_add, Int.natCast_add, Int.natCast_mul]; rfl
theorem cast_mod3 (x y z c : Nat) : ((x : Int) * y + z + c) % 4294967296 = (((x * y + z + c) % 4294967296 : Nat) : Int) := by
  rw [Int.natCast_emod, Int.natCast_add, Int.natCast_add, Int.natCast_mul]; rfl
theorem prod32 {x y : Nat} (hx : x < 4294967296) (hy : y < 4294967296) : (x : Int) * y ≤ 18446744065119617025 := by
  have : x * y ≤ 4294967295 * 4294967295 := Nat.mul_le_mul (by omega) (by omega)
  have : ((x * y : Nat) : Int) ≤ ((4294967295 * 4294967295 : Nat) : Int) := by exact_mod_cast this
  simpa using this

end Go.Proofs.YtkohlmlmoapedaaDoor
end

section
namespace Go.Proofs.YtkohlmlmoapedaaDoor

/-- the number of factors 2 of a number that is not 0 -/
def tz (n : Nat) : Nat := if n = 0 then 0 else if n % 2 = 1 then 0 else tz (n / 2) + 1
termination_by n
decreasing_by omega

theorem tz_odd {n : Nat} (h : n % 2 = 1) : tz n = 0 := by rw [tz]; split <;> simp_all
theorem tz_even {n : Nat} (h0 : n ≠ 0) (h : n % 2 = 0) : tz n = tz (n / 2) + 1 := by rw [tz]; rw [if_neg h0, if_neg (by omega)]
theorem tz_zero : tz 0 = 0 := by rw [tz]; simp

/-- the odd part -/
def oddp (n : Nat) : Nat := n / 2 ^ tz n

theorem tz_spec (n : Nat) (h : n ≠ 0) : ∃ m, m % 2 = 1 ∧ n = m * 2 ^ tz n := by
  induction n using Nat.strongRecOn with
  | _ n ih =>
    by_cases h1 : n % 2 = 1
    · exact ⟨n, h1, by rw [tz_odd h1]; simp⟩
    · obtain ⟨m, hm, e⟩ := ih (n / 2) (by omega) (by omega)
      refine ⟨m, hm, ?_⟩
      rw [tz_even h (by omega), Nat.pow_succ, ← Nat.mul_assoc, ← e]; omega
theorem oddp_spec {n : Nat} (h : n ≠ 0) : oddp n % 2 = 1 ∧ n = oddp n * 2 ^ tz n := by
  obtain ⟨m, hm, e⟩ := tz_spec n h
  have : oddp n = m := by
    unfold oddp
    conv => lhs; lhs; rw [e]
    exact Nat.mul_div_cancel _ (Nat.pow_pos (by decide))
  rw [this]; exact ⟨hm, e⟩
theorem odd_pow_unique {m m' a b : Nat} (hm : m % 2 = 1) (hm' : m' % 2 = 1) (h : m * 2 ^ a = m' * 2 ^ b) : m = m' ∧ a = b := by
  induction a generalizing b with
  | zero =>
    cases b with
    | zero => simpa using h
    | succ b =>
      exfalso
      rw [Nat.pow_succ, ← Nat.mul_assoc] at h
      simp at h; omega
  | succ a ih =>
    cases b with
    | zero =>
      exfalso
      rw [Nat.pow_succ, ← Nat.mul_assoc] at h
      simp at h; omega
    | succ b =>
      rw [Nat.pow_succ, Nat.pow_succ, ← Nat.mul_assoc, ← Nat.mul_assoc] at h
      have := ih (b := b) (by omega)
      exact ⟨this.1, by omega⟩
theorem tz_mul_pow {m : Nat} (hm : m % 2 = 1) (k : Nat) : tz (m * 2 ^ k) = k := by
  have hne : m * 2 ^ k ≠ 0 := Nat.mul_ne_zero (by omega) (Nat.ne_of_gt (Nat.pow_pos (by decide)))
  obtain ⟨h1, h2⟩ := oddp_spec hne
  exact (odd_pow_unique hm h1 h2).2.symm
theorem oddp_mul_pow {m : Nat} (hm : m % 2 = 1) (k : Nat) : oddp (m * 2 ^ k) = m := by
  have hne : m * 2 ^ k ≠ 0 := Nat.mul_ne_zero (by omega) (Nat.ne_of_gt (Nat.pow_pos (by decide)))
  obtain ⟨h1, h2⟩ := oddp_spec hne
  exact (odd_pow_unique hm h1 h2).1.symm
theorem oddp_odd {m : Nat} (hm : m % 2 = 1) : oddp m = m := by simpa using oddp_mul_pow hm 0
theorem oddp_ne_zero {n : Nat} (h : n ≠ 0) : oddp n ≠ 0 := by have := (oddp_spec h).1; omega
theorem bits_oddp {n : Nat} (h : n ≠ 0) : bits n = bits (oddp n) + tz n := by
  conv => lhs; rw [(oddp_spec h).2]
  exact bits_mul_pow (oddp_ne_zero h)
theorem tz_shift {n : Nat} (h : n ≠ 0) (k : Nat) : tz (n * 2 ^ k) = tz n + k := by
  have h1 := oddp_spec h
  conv => lhs; rw [h1.2, Nat.mul_assoc, ← Nat.pow_add]
  exact tz_mul_pow h1.1 _
theorem oddp_shift {n : Nat} (h : n ≠ 0) (k : Nat) : oddp (n * 2 ^ k) = oddp n := by
  have h1 := oddp_spec h
  conv => lhs; rw [h1.2, Nat.mul_assoc, ← Nat.pow_add]
  exact oddp_mul_pow h1.1 _

/-- a dyadic number (-1)^neg m 2^e -/
structure Dy where
  neg : Bool
  m : Nat
  e : Int
deriving DecidableEq

/-- zero -/
def Dy.zero : Dy := ⟨false, 0, 0⟩
/-- canonical and in range -/
def Dy.ok (d : Dy) : Prop :=
  (d.m = 0 ∧ d.neg = false ∧ d.e = 0) ∨ (d.m % 2 = 1 ∧ bits d.m ≤ 4096 ∧ -16384 ≤ d.e ∧ d.e ≤ 16384 ∧ bits d.m + d.e ≤ 16384)
instance (d : Dy) : Decidable d.ok := by unfold Dy.ok; exact inferInstance
/-- a sign -/
def sg (neg : Bool) (n : Nat) : Int := if neg then -(n : Int) else n
/-- the number times 2^16384 -/
def Dy.iv (d : Dy) : Int := sg d.neg (d.m * 2 ^ (d.e + 16384).toNat)
theorem Dy.ok_zero : Dy.zero.ok := .inl ⟨rfl, rfl, rfl⟩
theorem sg_inj {s t : Bool} {m n : Nat} (hm : m ≠ 0) (h : sg s m = sg t n) : s = t ∧ m = n := by
  unfold sg at h
  cases s <;> cases t <;> simp at h ⊢ <;> omega
theorem sg_zero (s : Bool) : sg s 0 = 0 := by unfold sg; cases s <;> rfl
theorem sg_eq_zero {s : Bool} {n : Nat} : sg s n = 0 ↔ n = 0 := by unfold sg; cases s <;> simp
theorem Dy.iv_zero : Dy.zero.iv = 0 := by
  unfold Dy.iv Dy.zero; simp only [Nat.zero_mul, sg_zero]
theorem Dy.iv_eq_zero {d : Dy} : d.iv = 0 ↔ d.m = 0 := by
  unfold Dy.iv; rw [sg_eq_zero]
  constructor
  · intro h
    rcases Nat.mul_eq_zero.1 h with h | h
    · exact h
    · exact absurd h (Nat.ne_of_gt (Nat.pow_pos (by decide)))
  · intro h; rw [h]; simp
theorem Dy.eq_zero {d : Dy} (h : d.ok) (h0 : d.m = 0) : d = Dy.zero := by
  rcases h with ⟨h1, h2, h3⟩ | ⟨h1, _⟩
  · cases d; simp_all [Dy.zero]
  · omega
theorem Dy.iv_inj {a b : Dy} (ha : a.ok) (hb : b.ok) (h : a.iv = b.iv) : a = b := by
  by_cases h0 : a.m = 0
  · have hb0 : b.m = 0 := by rw [← Dy.iv_eq_zero, ← h, Dy.iv_eq_zero]; exact h0
    rw [a.eq_zero ha h0, b.eq_zero hb hb0]
  · have hb0 : b.m ≠ 0 := by rw [Ne, ← Dy.iv_eq_zero, ← h, Dy.iv_eq_zero]; exact h0
    rcases ha with ⟨h1, _⟩ | ⟨a1, a2, a3, a4, a5⟩
    · exact absurd h1 h0
    rcases hb with ⟨h1, _⟩ | ⟨b1, b2, b3, b4, b5⟩
    · exact absurd h1 hb0
    obtain ⟨e1, e2⟩ := sg_inj (Nat.mul_ne_zero h0 (Nat.ne_of_gt (Nat.pow_pos (by decide)))) h
    obtain ⟨e3, e4⟩ := odd_pow_unique a1 b1 e2
    cases a; cases b; simp_all; omega

/-- the canonical form of (-1)^neg n 2^e -/
def canon (neg : Bool) (n : Nat) (e : Int) : Dy := if n = 0 then .zero else ⟨neg, oddp n, e + tz n⟩
theorem canon_zero (neg : Bool) (e : Int) : canon neg 0 e = .zero := rfl
theorem canon_shift (neg : Bool) (n k : Nat) (e : Int) : canon neg (n * 2 ^ k) e = canon neg n (e + k) := by
  unfold canon
  by_cases h : n = 0
  · subst h; simp
  · rw [if_neg h, if_neg (Nat.mul_ne_zero h (Nat.ne_of_gt (Nat.pow_pos (by decide)))), oddp_shift h, tz_shift h]
    congr 1; omega
theorem canon_ok {d : Dy} (h : d.ok) : canon d.neg d.m d.e = d := by
  unfold canon
  split
  · next h0 => exact (d.eq_zero h h0).symm
  · next h0 =>
    rcases h with ⟨h1, _⟩ | ⟨h1, _⟩
    · exact absurd h1 h0
    · rw [oddp_odd h1, tz_odd h1]; cases d; simp
theorem canon_iv (neg : Bool) (n : Nat) (e : Int) (h : -16384 ≤ e) : (canon neg n e).iv = sg neg (n * 2 ^ (e + 16384).toNat) := by
  unfold canon
  split
  · next h0 => subst h0; rw [Dy.iv_zero]; simp [sg_zero]
  · next h0 =>
    unfold Dy.iv
    simp only []
    congr 1
    conv => rhs; rw [(oddp_spec h0).2]
    rw [Nat.mul_assoc, ← Nat.pow_add]
    congr 2; omega
/-- the canonical form is in range -/
def inr (d : Dy) : Prop := d.m = 0 ∨ (bits d.m ≤ 4096 ∧ -16384 ≤ d.e ∧ d.e ≤ 16384 ∧ bits d.m + d.e ≤ 16384)
instance (d : Dy) : Decidable (inr d) := by unfold inr; exact inferInstance
theorem canon_ok_iff (neg : Bool) (n : Nat) (e : Int) : (canon neg n e).ok ↔ inr (canon neg n e) := by
  unfold canon
  split
  · exact ⟨fun _ => .inl rfl, fun _ => Dy.ok_zero⟩
  · next h0 =>
    have h1 := oddp_spec h0
    unfold Dy.ok inr
    simp only []
    constructor
    · rintro (⟨h, _⟩ | ⟨_, h⟩)
      · exact absurd h (oddp_ne_zero h0)
      · exact .inr h
    · rintro (h | h)
      · exact absurd h (oddp_ne_zero h0)
      · exact .inr ⟨h1.1, h⟩

end Go.Proofs.YtkohlmlmoapedaaDoor
end
