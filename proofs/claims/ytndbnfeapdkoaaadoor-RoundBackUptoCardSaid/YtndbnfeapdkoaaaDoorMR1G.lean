/-
  Walks: the first reference's less, DivMod.
-/
import Derived.Test.YtndbnfeapdkoaaaDoorMR2L
import Derived.Test.YtndbnfeapdkoaaaDoorMProdP
import Derived.Test.YtndbnfeapdkoaaaDoorMR3C
namespace Go.Proofs.YtndbnfeapdkoaaaDoor
open Go.RowKit

theorem r1less_any (a b : Option Addr) (xs ys : List Nat) (c d : Nat) (w : World) (h1 : Rd w a xs) (h2 : Rd w b ys) (hxl : xs.length ≤ 1100000) (hyl : ys.length ≤ 1100000) :
    Calls Tryd.prog 48 #[.slice a xs.length c, .slice b ys.length d] w fun e w' => e = .returned (.bool (decide (val xs < val ys))) ∧ Kp w w' := by
  go_enter Tryd.func48, Tryd.ntmps48
  go_wp2_with fail
  refine (r1cmp_any a b xs ys c d w h1 h2 hxl hyl).mono ?_
  rintro e w2 ⟨rfl, rfl⟩
  have H := Lib.hid (show decide (cmpN (val xs) (val ys) < 0) = decide (val xs < val ys) by
    by_cases h : val xs < val ys
    · rw [cmpN_lt h, decide_eq_true h]; rfl
    · rw [decide_eq_false h]
      unfold cmpN
      rw [if_neg h]
      split <;> rfl)
  go_wp2_with fail
  go_ret
  exact ⟨ret_bool H.out, Kp.refl _⟩
theorem or_one {z cy : Nat} (hc : cy ≤ 1) : Go.bits BinOp.or IntKind.u32 ((z : Int) * 2 % 4294967296) (cy : Int) = (((2 * z + cy) % 4294967296 : Nat) : Int) := by
  have e : (z : Int) * 2 % 4294967296 = ((z * 2 % 4294967296 : Nat) : Int) := by omega
  rw [e, u32_or_nat _ _ (by omega) (by omega), nat_join 1 _ _ (by omega) (by omega)]
  congr 1; omega
theorem double_step {zs rs : List Nat} {t c b : Nat} (hk : t < zs.length) (h : val (zs.take t) + 4294967296 ^ t * c = 2 * val (rs.take t) + b) :
    val ((zs.set t ((2 * nth rs t + c) % 4294967296)).take (t + 1)) + 4294967296 ^ (t + 1) * ((2 * nth rs t + c) / 4294967296) = 2 * val (rs.take (t + 1)) + b := by
  rw [val_take_set hk, val_take_step rs, Nat.pow_succ, Nat.mul_assoc]
  generalize 4294967296 ^ t = P at *
  have e2 : P * (2 * nth rs t + c) = 2 * (P * nth rs t) + P * c := by rw [Nat.mul_add, Nat.mul_left_comm]
  generalize 2 * nth rs t + c = s at *
  have e : P * (s % 4294967296) + P * (4294967296 * (s / 4294967296)) = P * s := by
    rw [← Nat.mul_add]; congr 1; omega
  omega
theorem or_bit {o r : Nat} (h : o / 2 ^ r % 2 = 0) : o ||| 2 ^ r = o + 2 ^ r := by
  have h1 := Nat.div_add_mod o (2 ^ r)
  have h2 := Nat.mod_lt o (two_pow_pos r)
  have h3 : 2 ^ (r + 1) * (o / 2 ^ r / 2) + o % 2 ^ r = o := by
    rw [Nat.pow_succ, Nat.mul_assoc, show 2 * (o / 2 ^ r / 2) = o / 2 ^ r by omega]; exact h1
  have h4 : 2 ^ (r + 1) * (o / 2 ^ r / 2) ||| o % 2 ^ r = o := by
    rw [nat_join (r + 1) _ _ (Nat.mul_mod_right _ _) (by rw [Nat.pow_succ]; omega)]; exact h3
  have h5 : o % 2 ^ r ||| 2 ^ r = 2 ^ r + o % 2 ^ r := by
    rw [Nat.or_comm, nat_join r _ _ (Nat.mod_self _) h2]
  conv => lhs; rw [← h4]
  rw [Nat.or_assoc, h5, nat_join (r + 1) _ _ (Nat.mul_mod_right _ _) (by rw [Nat.pow_succ]; omega)]
  omega
/-- the bit is set -/
theorem set_bit {os : List Nat} {i Q : Nat} (h32 : Lt32 os) (hl : i / 32 < os.length) (h : val os = 2 ^ (i + 1) * Q) :
    Go.bits BinOp.or IntKind.u32 (nth os (i / 32) : Int) ((2 : Int) ^ (i % 32) % 4294967296) = ((nth os (i / 32) + 2 ^ (i % 32) : Nat) : Int) ∧ nth os (i / 32) + 2 ^ (i % 32) < 4294967296 ∧ val (os.set (i / 32) (nth os (i / 32) + 2 ^ (i % 32))) = 2 ^ (i + 1) * Q + 2 ^ i := by
  have hb : nth os (i / 32) / 2 ^ (i % 32) % 2 = 0 := by
    rw [bit_nth h32, h, Nat.pow_succ, Nat.mul_assoc, Nat.mul_div_cancel_left _ (two_pow_pos i), Nat.mul_mod_right]
  have ho := h32.nth (i / 32)
  have hr : 2 ^ (i % 32) < 2 ^ 32 := Nat.pow_lt_pow_right (by decide) (Nat.mod_lt _ (by decide))
  have hor := or_bit hb
  have hlt : nth os (i / 32) ||| 2 ^ (i % 32) < 2 ^ 32 := Nat.or_lt_two_pow ho hr
  refine ⟨?_, by rw [← hor]; exact hlt, ?_⟩
  · have e : (2 : Int) ^ (i % 32) % 4294967296 = ((2 ^ (i % 32) : Nat) : Int) := by
      rw [show (2 : Int) ^ (i % 32) = ((2 ^ (i % 32) : Nat) : Int) from by push_cast; rfl]
      have hr' : 2 ^ (i % 32) < 4294967296 := hr
      clear hor hlt hr hb
      generalize 2 ^ (i % 32) = T at *
      omega
    rw [e, u32_or_nat _ _ ho hr, hor]
  · have h1 := val_set (xs := os) (x := nth os (i / 32) + 2 ^ (i % 32)) hl
    rw [Nat.mul_add, pow_split, h] at h1
    omega
/-- the rest doubled, with the next bit -/
theorem double_end {zs rs : List Nat} {n c b A B k : Nat} (hz : zs.length = n) (hr : rs.length = n) (h : val (zs.take n) + 4294967296 ^ n * c = 2 * val (rs.take n) + b) (hB : 2 * B ≤ 4294967296 ^ n) (h0 : 0 < B)
    (hv : val rs = A / 2 ^ (k + 1) % B) (hb : b = A / 2 ^ k % 2) : val zs = 2 * (A / 2 ^ (k + 1) % B) + A / 2 ^ k % 2 := by
  rw [List.take_of_length_le (by omega), List.take_of_length_le (by omega), hv, hb] at h
  have h1 := Nat.mod_lt (A / 2 ^ (k + 1)) h0
  have h2 : A / 2 ^ k % 2 < 2 := Nat.mod_lt _ (by decide)
  generalize 4294967296 ^ n = P at *
  rcases Nat.eq_zero_or_pos c with h3 | h3
  · subst h3; omega
  · have := Nat.le_mul_of_pos_right P h3
    omega
theorem next_bit (A k : Nat) : A / 2 ^ k = 2 * (A / 2 ^ (k + 1)) + A / 2 ^ k % 2 := by
  rw [Nat.pow_succ, ← Nat.div_div_eq_div_mul]; omega
/-- the next digit is 0 -/
theorem bit_less {A B k z : Nat} (h0 : 0 < B) (hz : z = 2 * (A / 2 ^ (k + 1) % B) + A / 2 ^ k % 2) (h : z < B) : z = A / 2 ^ k % B ∧ 2 ^ (k + 1) * (A / 2 ^ (k + 1) / B) = 2 ^ k * (A / 2 ^ k / B) := by
  have h1 := Nat.div_add_mod (A / 2 ^ (k + 1)) B
  have h2 := next_bit A k
  have h3 := (Nat.div_mod_unique (a := A / 2 ^ k) (c := z) (d := 2 * (A / 2 ^ (k + 1) / B)) h0).2 ⟨by rw [Nat.mul_left_comm]; omega, h⟩
  rw [h3.1, h3.2, Nat.pow_succ, Nat.mul_assoc]
  exact ⟨rfl, rfl⟩
/-- the next digit is 1 -/
theorem bit_more {A B k z y : Nat} (h0 : 0 < B) (hz : z = 2 * (A / 2 ^ (k + 1) % B) + A / 2 ^ k % 2) (hy : y + B = z) : y = A / 2 ^ k % B ∧ 2 ^ (k + 1) * (A / 2 ^ (k + 1) / B) + 2 ^ k = 2 ^ k * (A / 2 ^ k / B) := by
  have h1 := Nat.div_add_mod (A / 2 ^ (k + 1)) B
  have h2 := next_bit A k
  have h4 := Nat.mod_lt (A / 2 ^ (k + 1)) h0
  have h3 := (Nat.div_mod_unique (a := A / 2 ^ k) (c := y) (d := 2 * (A / 2 ^ (k + 1) / B) + 1) h0).2 ⟨by rw [Nat.mul_add, Nat.mul_left_comm]; omega, by omega⟩
  rw [h3.1, h3.2, Nat.pow_succ, Nat.mul_assoc, Nat.mul_add, Nat.mul_one]
  exact ⟨rfl, rfl⟩
theorem less_fin {y z B P bo : Nat} (h4 : y < P) (hbo : bo ≤ 1) (hle : ¬ z < B) (e : y + B = z + P * bo) : y + B = z := by
  rcases (show bo = 0 ∨ bo = 1 by omega) with h | h <;> subst h <;> omega
theorem val_lt_len {yl : List Nat} {n : Nat} (h1 : yl.length = n) (h32 : Lt32 yl) : val yl < 4294967296 ^ n := by
  have h4 := val_lt h32
  rw [h1] at h4
  exact h4
theorem less_end {yl zs vs : List Nat} {n bo B : Nat} (h1 : yl.length = n + 1) (h2 : zs.length = n + 1) (h3 : vs.length = n) (h32 : Lt32 yl) (hv : val vs = B) (hbo : bo ≤ 1) (hle : ¬ val zs < B) (e : val (yl.take (n + 1)) + val (vs.take (n + 1)) = val (zs.take (n + 1)) + 4294967296 ^ (n + 1) * bo) : val yl + B = val zs := by
  rw [List.take_of_length_le (Nat.le_of_eq h1), List.take_of_length_le (by omega), List.take_of_length_le (Nat.le_of_eq h2), hv] at e
  exact less_fin (val_lt_len h1 h32) hbo hle e
theorem twice_lt {vs : List Nat} {B : Nat} (h : Lt32 vs) (hv : val vs = B) : 2 * B ≤ 4294967296 ^ (vs.length + 1) := by
  have h1 := val_lt h
  rw [hv] at h1
  rw [Nat.pow_succ]
  generalize 4294967296 ^ vs.length = P at *
  omega
/-- quotient and rest -/
def DmR (w : World) (n m : Nat) (e : Ending) (w' : World) : Prop :=
  ∃ a1 c1 a2 c2, e = .returned (.tuple #[.slice a1 (limbs (n / m)).length c1, .slice a2 (limbs (n % m)).length c2]) ∧ (limbs (n / m)).length ≤ c1 ∧ c1 ≤ maxLen ∧ (limbs (n % m)).length ≤ c2 ∧ c2 ≤ maxLen ∧
    Rd w' a1 (limbs (n / m)) ∧ Rd w' a2 (limbs (n % m)) ∧ Kp w w'
set_option maxRecDepth 100000 in
set_option maxHeartbeats 8000000 in
theorem r1divmod_any (a b : Option Addr) (xs ys : List Nat) (c d : Nat) (w : World) (hx : Rd w a xs) (hy : Rd w b ys) (hxl : xs.length ≤ 1000) (hyl : ys.length ≤ 1000) (hyc : ys.length ≤ d) (hd : d ≤ maxLen) (h0 : val ys ≠ 0) :
    Calls Tryd.prog 24 #[.slice a xs.length c, .slice b ys.length d] w (DmR w (val xs) (val ys)) := by
  go_enter Tryd.func24, Tryd.ntmps24
  go_wp2_with fail
  refine (r1trim_any b ys d w hy hyc hd (by omega)).mono ?_
  rintro e w2 ⟨a2, c2, rfl, l2, m2, rd2, k2⟩
  have hbl := limbs_len_le hy.lt32
  generalize hvs : limbs (val ys) = vs at *
  have Hvs := Lib.hid hvs
  clear hvs
  have hvl : vs.length ≤ 1000 := by omega
  have hmk := make_u32 (xs.length : Int) xs.length rfl (by omega)
  have hmk2 := make_u32 ((vs.length : Int) + 1) (vs.length + 1) (by omega) (by omega)
  go_wp2_with fail
  clear hmk hmk2
  refine (r1bits_any a xs c _ ((hx.kp k2).kp (((Kp.refl _).alloc _).alloc _)) (by omega)).mono ?_
  rintro e w3 ⟨rfl, rfl⟩
  go_wp2_with fail
  have hbx : bits (val xs) ≤ 32 * xs.length := bits_le.2 (by rw [← pow32]; exact val_lt hx.lt32)
  rw [show wrap64 ((bits (val xs) : Int) - 1) = (bits (val xs) : Int) - 1 from IntWalk.wrap64_in _ ⟨by omega, by omega⟩]
  have hk0 : Kp w2 ((w2.alloc (.cells (madeCells #[.int .u32 0] xs.length) 42)).alloc (.cells (madeCells #[.int .u32 0] (vs.length + 1)) 42)) := ((Kp.refl w2).alloc _).alloc _
  have hB0 : Blk ((w2.alloc (.cells (madeCells #[.int .u32 0] xs.length) 42)).alloc (.cells (madeCells #[.int .u32 0] (vs.length + 1)) 42)) w2.heap.size (List.replicate xs.length 0) := (Blk.made w2 xs.length).kp ((Kp.refl _).alloc _)
  have hB1 : Blk ((w2.alloc (.cells (madeCells #[.int .u32 0] xs.length) 42)).alloc (.cells (madeCells #[.int .u32 0] (vs.length + 1)) 42)) (w2.heap.size + 1) (List.replicate (vs.length + 1) 0) := by
    have := Blk.made (w2.alloc (.cells (madeCells #[.int .u32 0] xs.length) 42)) (vs.length + 1)
    rwa [World.size_alloc] at this
  have hxw := hx.kp k2
  have hvv : val vs = val ys := by rw [← Hvs.out, val_limbs]
  have Hvv := Lib.hid hvv
  have HB := Lib.hid (twice_lt rd2.lt32 hvv)
  have hpos : 0 < val ys := by omega
  generalize World.alloc _ _ = W at *
  clear hx hy hvv h0
  go_loopw [8] (fun iv wr => ∃ (k : Nat) (os rs : List Nat), k ≤ bits (val xs) ∧ iv = .int .i64 ((k : Int) - 1) ∧ os.length = xs.length ∧ rs.length = vs.length + 1 ∧ Lt32 os ∧ Lt32 rs ∧ Blk wr w2.heap.size os ∧ Blk wr (w2.heap.size + 1) rs ∧ Kp w2 wr ∧
    val rs = val xs / 2 ^ k % val ys ∧ val os = 2 ^ k * (val xs / 2 ^ k / val ys)) (fun iv _ => (intOf iv + 1).toNat)
  case atStart => 
    have hz : val xs / 2 ^ bits (val xs) = 0 := Nat.div_eq_of_lt (lt_two_pow_bits _)
    refine ⟨bits (val xs), _, _, Nat.le_refl _, rfl, by simp, by simp, .replicate _, .replicate _, hB0, hB1, hk0, ?_, ?_⟩
    · rw [hz, val_replicate, Nat.zero_mod]
    · rw [hz, val_replicate, Nat.zero_div, Nat.mul_zero]
  case round =>
    obtain ⟨k, os, rs, hk, rfl, hol, hrl, ho32, hr32, hbo, hbr, hkp, hv1, hv2⟩ := hrel
    have Hv := Lib.hid (And.intro hv1 hv2)
    have Hol := Lib.hid hol
    have Hrl := Lib.hid hrl
    clear hv1 hv2 hol hrl
    rcases k with _ | i
    · rw [show (((0 : Nat) : Int) - 1) = -1 from rfl]
      have hro := hbo.rd ho32
      have hrr := hbr.rd hr32
      have To := r1trim_any (some ⟨w2.heap.size, 0, none⟩) os os.length wr hro (Nat.le_refl _) (by rw [Hol.out]; unfold maxLen; omega) (by rw [Hol.out]; omega)
      have Tr := fun W (k : Kp wr W) => r1trim_any (some ⟨w2.heap.size + 1, 0, none⟩) rs rs.length W (hrr.kp k) (Nat.le_refl _) (by rw [Hrl.out]; unfold maxLen; omega) (by rw [Hrl.out]; omega)
      rw [Hol.out] at To
      rw [Hrl.out] at Tr
      have HTo := Lib.hid To
      have HTr := Lib.hid Tr
      clear To Tr
      go_wp2_with fail
      refine HTo.out.mono ?_
      rintro e w4 ⟨a4, c4, rfl, l4, m4, rd4, k4⟩
      go_wp2_with fail
      refine (HTr.out _ k4).mono ?_
      rintro e w5 ⟨a5, c5, rfl, l5, m5, rd5, k5⟩
      have Hvf := Lib.hid (show val os = val xs / val ys ∧ val rs = val xs % val ys by
        have h1 := Hv.out
        rw [Nat.pow_zero, Nat.div_one, Nat.one_mul] at h1
        exact ⟨h1.2, h1.1⟩)
      have hk25 := (k2.trans hkp).trans (k4.trans k5)
      have rd4' := rd4.kp k5
      rw [Hvf.out.1] at l4 rd4' ⊢
      rw [Hvf.out.2] at l5 rd5 ⊢
      clear HTo HTr
      go_wp2_with fail
      refine bodyPost_ret (v := .tuple #[.slice a4 (limbs (val xs / val ys)).length c4, .slice a5 (limbs (val xs % val ys)).length c5]) (by simp [results, Tryd.results24, go_sem]) rfl ?_
      exact ⟨a4, c4, a5, c5, rfl, l4, m4, l5, m5, rd4', rd5, hk25⟩
    · rw [show (((i + 1 : Nat) : Int) - 1) = (i : Int) from by omega]
      have hil : i / 32 < xs.length := by omega
      have hxr := hxw.kp hkp
      obtain ⟨b1, o1, rfl, hcx⟩ := hxr.some hil
      have hx1 := hcx (i / 32) hil
      have bx := hxr.lt32.nth (i / 32)
      clear hcx
      go_wp2_with fail
      rw [bit32 bx]
      have Hbit := Lib.hid (bit_nth hxr.lt32 i)
      have hbl : nth xs (i / 32) / 2 ^ (i % 32) % 2 ≤ 1 := by omega
      generalize nth xs (i / 32) / 2 ^ (i % 32) % 2 = bt at *
      clear hx1 bx hxr
      go_loopw [9, 10] (fun cv tv wi => ∃ (t cy : Nat) (zs : List Nat), t ≤ vs.length + 1 ∧ tv = .int .i64 t ∧ cv = .int .u32 (cy : Nat) ∧ cy ≤ 1 ∧ zs.length = vs.length + 1 ∧ Lt32 zs ∧ (∀ j, t ≤ j → nth zs j = nth rs j) ∧
        val (zs.take t) + 4294967296 ^ t * cy = 2 * val (rs.take t) + bt ∧ Blk wi w2.heap.size os ∧ Blk wi (w2.heap.size + 1) zs ∧ Kp w2 wi) (fun _ tv _ => vs.length + 1 - (intOf tv).toNat)
      case atStart => exact ⟨0, bt, rs, Nat.zero_le _, rfl, rfl, hbl, Hrl.out, hr32, fun _ _ => rfl, by simp [val], hbo, hbr, hkp⟩
      case round =>
        obtain ⟨t, cy, zs, ht, rfl, rfl, hcy, hzl, hz32, hsame, hzv, hboi, hbri, hkpi⟩ := hrel
        have Hzl := Lib.hid hzl
        have Hsm := Lib.hid hsame
        have Hzv := Lib.hid hzv
        clear hzl hsame hzv hbo hbr hkp
        by_cases hlt : t < vs.length + 1
        · have hu1 := hbri.cell (i := t) (by rw [Hzl.out]; exact hlt)
          have hu2 := hbri.frozen t
          have bz := hz32.nth t
          have hor := or_one (z := nth zs t) hcy
          have hsm' := Hsm.out t (Nat.le_refl _)
          have Hst := Lib.hid (double_step (zs := zs) (rs := rs) (t := t) (c := cy) (b := bt) (by rw [Hzl.out]; exact hlt) Hzv.out)
          rw [← hsm'] at Hst
          clear hsm'
          go_wp2_with fail
          go_roundw
          case rel =>
            refine ⟨t + 1, (2 * nth zs t + cy) / 4294967296, zs.set t ((2 * nth zs t + cy) % 4294967296), by omega, by go_num, by congr 1; omega, by omega, by simp [Hzl.out], hz32.set _ _ (by omega), fun j hj => ?_, Hst.out, ((Mod.refl _ _).set _ _).blk (by omega) hboi, hbri.set _ _, hkpi.set (by omega) _⟩
            rw [nth_set_ne (by omega)]
            exact Hsm.out j (by omega)
          all_goals (simp [intOf]; try omega)
        · have hte : t = vs.length + 1 := by omega
          have Hde := Lib.hid (double_end (zs := zs) (rs := rs) (n := vs.length + 1) (c := cy) (b := bt) (A := val xs) (B := val ys) (k := i) Hzl.out Hrl.out (by rw [← hte]; exact Hzv.out) HB.out hpos Hv.out.1 Hbit.out)
          have hls := r1less_any (some ⟨w2.heap.size + 1, 0, none⟩) a2 zs vs zs.length c2 wr (hbri.rd hz32) (rd2.kp hkpi) (by rw [Hzl.out]; omega) (by omega)
          rw [Hzl.out, Hvv.out] at hls
          have HL := Lib.hid hls
          clear hls hte
          go_wp2_with fail
          refine HL.out.mono ?_
          rintro e w6 ⟨rfl, hk6⟩
          have hbo6 := hboi.kp hk6
          have hbr6 := hbri.kp hk6
          have hkp6 := hkpi.trans hk6
          clear hboi hbri hkpi hk6 HL
          by_cases hless : val zs < val ys
          · rw [decide_eq_true hless]
            have Hbl := Lib.hid (bit_less hpos Hde.out hless)
            clear hless
            go_wp2_with fail
            go_roundw
            case rel => exact ⟨i, os, zs, by omega, rfl, Hol.out, Hzl.out, ho32, hz32, hbo6, hbr6, hkp6, Hbl.out.1, by rw [Hv.out.2]; exact Hbl.out.2⟩
            all_goals (simp [intOf]; try omega)
          · rw [decide_eq_false hless]
            have Hle := Lib.hid hless
            clear hless
            go_wp2_with fail
            go_loopw [12, 13] (fun bv tv wi => ∃ (t bo : Nat) (yl : List Nat), t ≤ vs.length + 1 ∧ tv = .int .i64 t ∧ bv = .int .u64 (bo : Nat) ∧ bo ≤ 1 ∧ yl.length = vs.length + 1 ∧ Lt32 yl ∧ (∀ j, t ≤ j → nth yl j = nth zs j) ∧
              val (yl.take t) + val (vs.take t) = val (zs.take t) + 4294967296 ^ t * bo ∧ Blk wi w2.heap.size os ∧ Blk wi (w2.heap.size + 1) yl ∧ Kp w2 wi) (fun _ tv _ => vs.length + 1 - (intOf tv).toNat)
            case atStart => exact ⟨0, 0, zs, Nat.zero_le _, rfl, rfl, by decide, Hzl.out, hz32, fun _ _ => rfl, by simp [val], hbo6, hbr6, hkp6⟩
            case round =>
              obtain ⟨t2, bo, yl, ht2, rfl, rfl, hbo1, hyl2, hy32, hsame2, hyv, hboj, hbrj, hkpj⟩ := hrel
              have Hyl2 := Lib.hid hyl2
              have Hsm2 := Lib.hid hsame2
              have Hyv := Lib.hid hyv
              clear hyl2 hsame2 hyv hbo6 hbr6 hkp6
              by_cases hlt2 : t2 < vs.length + 1
              · have hu1 := hbrj.cell (i := t2) (by rw [Hyl2.out]; exact hlt2)
                have bz2 := hy32.nth t2
                have by2 := rd2.lt32.nth t2
                have HAt := Lib.hid (fun n => show Calls Tryd.prog 49 #[.slice a2 vs.length c2, .int .i64 (t2 : Nat)] (wr.drewN n) (fun e w' => e = .returned (.int .u64 (nth vs t2 : Nat)) ∧ w' = wr.drewN n) from
                  (r1at_any a2 vs c2 t2 (wr.drewN n) ((rd2.kp hkpj).kp ((Kp.refl wr).drewN n))).mono fun e w' ⟨h1, h2⟩ => ⟨h1, h2.symm⟩)
                have e1 : IntKind.u64.wrap ((nth yl t2 : Int) + 4294967296) = (nth yl t2 : Int) + 4294967296 := by rw [IntKind.wrap_u64]; exact Int.emod_eq_of_lt (by omega) (by omega)
                have e2 : IntKind.u64.wrap ((nth yl t2 : Int) + 4294967296 - (nth vs t2 : Int)) = (nth yl t2 : Int) + 4294967296 - (nth vs t2 : Int) := by rw [IntKind.wrap_u64]; exact Int.emod_eq_of_lt (by omega) (by omega)
                have e3 : IntKind.u64.wrap ((nth yl t2 : Int) + 4294967296 - (nth vs t2 : Int) - (bo : Int)) = (nth yl t2 : Int) + 4294967296 - (nth vs t2 : Int) - (bo : Int) := by rw [IntKind.wrap_u64]; exact Int.emod_eq_of_lt (by omega) (by omega)
                have l1 : (t2 : Int) < (vs.length : Int) + 1 := by omega
                have l2 : (0 : Int) ≤ (t2 : Int) := by omega
                go_wp2_with fail
                go_quiet ((go_at_call 49; exact Calls.quiet_of_same (HAt.out _)))
                clear e1 e2 e3 l1 l2
                have hkd := (Kp.refl wr).drewN nq
                have hbok := hboj.kp hkd
                have hbrk := hbrj.kp hkd
                have hkpk := hkpj.trans hkd
                have hu2 := hbrk.frozen t2
                have hu3 := hbrk.cell (i := t2) (by rw [Hyl2.out]; exact hlt2)
                clear hboj hbrj hkpj hkd hu1
                generalize wr.drewN nq = W2 at *
                go_wp2_with fail
                go_roundw
                case rel =>
                  have hcl := and_lowI (x := (nth yl t2 : Int) + 4294967296 - (nth vs t2 : Int) - (bo : Int)) (s := nth yl t2 + 4294967296 - (bo + nth vs t2)) (by omega) (by omega)
                  have hsm' := Hsm2.out t2 (Nat.le_refl _)
                  refine ⟨t2 + 1, 1 - (nth yl t2 + 4294967296 - (bo + nth vs t2)) / 4294967296, yl.set t2 ((nth yl t2 + 4294967296 - (bo + nth vs t2)) % 4294967296), by omega, by go_num, by congr 1; omega, by omega, by simp [Hyl2.out], hy32.set _ _ (Nat.mod_lt _ (by decide)), fun j hj => ?_, ?_, ((Mod.refl _ _).set _ _).blk (by omega) hbok, hbrk.put hcl, hkpk.set (by omega) _⟩
                  · rw [nth_set_ne (by omega)]
                    exact Hsm2.out j (by omega)
                  · exact sub_step (by rw [Hyl2.out]; exact hlt2) Hyv.out (by rw [← hsm']; omega)
                all_goals (simp [intOf]; try omega)
              · have hte : t2 = vs.length + 1 := by omega
                have hq1 := hboj.cell (i := i / 32) (by rw [Hol.out]; exact hil)
                have hq2 := hboj.frozen (i / 32)
                have l1 : (0 : Int) ≤ (i : Int) / 32 := by omega
                have l2 : (i : Int) / 32 < (xs.length : Int) := by omega
                have l3 : ((i : Int) / 32).toNat = i / 32 := by omega
                have l4 : (0 : Int) ≤ (i : Int) % 32 := by omega
                have l5 : (i : Int) % 32 < 32 := by omega
                have l6 : ((i : Int) % 32).toNat = i % 32 := by omega
                have hyb : val yl + val ys = val zs := less_end Hyl2.out Hzl.out rfl hy32 Hvv.out hbo1 Hle.out (by rw [← hte]; exact Hyv.out)
                have Hbm := Lib.hid (bit_more hpos Hde.out hyb)
                have Hsb := Lib.hid (set_bit (Q := val xs / 2 ^ (i + 1) / val ys) ho32 (by rw [Hol.out]; exact hil) Hv.out.2)
                clear hyb hte
                go_wp2_with fail
                go_region
                clear l1 l2 l3 l4 l5 l6
                go_wp2_with fail
                obtain ⟨f1, f2, f3⟩ := Hsb.out
                go_roundw
                case rel =>
                  refine ⟨i, os.set (i / 32) (nth os (i / 32) + 2 ^ (i % 32)), yl, by omega, rfl, by simp [Hol.out], Hyl2.out, ho32.set _ _ f2, hy32, (hboj.put f1).kp (Kp.refl _).drew, (((Mod.refl _ _).set _ _).blk (by omega) hbrj).kp (Kp.refl _).drew, (hkpj.set (Nat.le_refl _) _).drew, Hbm.out.1, ?_⟩
                  rw [f3]; exact Hbm.out.2
                all_goals (simp [intOf]; try omega)
end Go.Proofs.YtndbnfeapdkoaaaDoor
