/-
  Plain: division limb by limb; a square root by Newton's steps; no program in sight.
  Walks: bits.Div32, natural.short.
  Walks: natural.divide by one limb, DivMod from a contract of divide.
-/
import Derived.Test.YtkkiinbgjjjcoaaGreatDoorMNum
import Derived.Test.YtkkiinbgjjjcoaaGreatDoorMShr
section
namespace Go.Proofs.YtkkiinbgjjjcoaaGreatDoor

/-- one step of the division by a limb d, from the top down -/
theorem short_step {xs zs : List Nat} {d k r : Nat} (hk : k < xs.length) (hl : zs.length = xs.length) (_hr : r < d)
    (h : val (zs.drop (k + 1)) * d + r = val (xs.drop (k + 1))) :
    val ((zs.set k ((nth xs k + 4294967296 * r) / d)).drop k) * d + (nth xs k + 4294967296 * r) % d = val (xs.drop k) := by
  have e1 : (zs.set k ((nth xs k + 4294967296 * r) / d)).drop k = (nth xs k + 4294967296 * r) / d :: zs.drop (k + 1) := by
    rw [set_eq_take_drop (by omega), List.drop_append, List.drop_of_length_le (by simp; omega)]
    simp [Nat.min_eq_left (by omega : k ≤ zs.length)]
  rw [e1, drop_eq_nth hk, val_cons, val_cons, ← h]
  have h2 := Nat.div_add_mod (nth xs k + 4294967296 * r) d
  generalize (nth xs k + 4294967296 * r) / d = q at *
  generalize (nth xs k + 4294967296 * r) % d = s at *
  generalize val (zs.drop (k + 1)) = V at *
  rw [Nat.add_mul, Nat.mul_comm q d, Nat.mul_assoc, Nat.mul_add]
  omega
theorem short_digit {x d r : Nat} (hx : x < 4294967296) (hr : r < d) : (x + 4294967296 * r) / d < 4294967296 := by
  rw [Nat.div_lt_iff_lt_mul (by omega)]
  calc x + 4294967296 * r < 4294967296 + 4294967296 * r := by omega
    _ = 4294967296 * (r + 1) := by omega
    _ ≤ 4294967296 * d := Nat.mul_le_mul_left _ hr

/-- one step down to the root -/
def newt (n x : Nat) : Nat := (x + n / x) / 2
theorem newt_up {n x : Nat} (hx : 0 < x) : n < (newt n x + 1) * (newt n x + 1) := by
  unfold newt
  have h1 := Nat.div_add_mod n x
  have h2 := Nat.mod_lt n hx
  generalize n / x = q at *
  have h3 : x + q + 1 ≤ 2 * ((x + q) / 2 + 1) := by omega
  generalize (x + q) / 2 + 1 = y at *
  have h4 : (x + q + 1) * (x + q + 1) ≤ (2 * y) * (2 * y) := Nat.mul_le_mul h3 h3
  have h5 : (2 * y) * (2 * y) = 4 * (y * y) := by rw [Nat.mul_mul_mul_comm]
  have h6 : 4 * (x * (q + 1)) ≤ (x + q + 1) * (x + q + 1) := by
    rcases Nat.le_total x (q + 1) with h | h
    · obtain ⟨t, ht⟩ := Nat.exists_eq_add_of_le h
      rw [Nat.add_assoc, ht]
      have e : (x + (x + t)) * (x + (x + t)) = 4 * (x * (x + t)) + t * t := by
        simp only [Nat.mul_add, Nat.add_mul]
        have := Nat.mul_comm x t
        omega
      omega
    · obtain ⟨t, ht⟩ := Nat.exists_eq_add_of_le h
      rw [Nat.add_assoc, ht]
      generalize q + 1 = b at *
      have e : (b + t + b) * (b + t + b) = 4 * ((b + t) * b) + t * t := by
        simp only [Nat.mul_add, Nat.add_mul]
        have := Nat.mul_comm b t
        omega
      omega
  have h7 : n < x * (q + 1) := by rw [Nat.mul_add]; omega
  omega
theorem newt_done {n x : Nat} (h : x ≤ newt n x) : x * x ≤ n := by
  unfold newt at h
  have h1 : x ≤ n / x := by omega
  rcases Nat.eq_zero_or_pos x with h0 | h0
  · subst h0; simp
  exact (Nat.le_div_iff_mul_le h0).1 h1
/-- the root, rounded down -/
def isRt (n s : Nat) : Prop := s * s ≤ n ∧ n < (s + 1) * (s + 1)
theorem isRt.unique {n s t : Nat} (h : isRt n s) (h' : isRt n t) : s = t := by
  rcases Nat.lt_trichotomy s t with h1 | h1 | h1
  · have := Nat.mul_le_mul (show s + 1 ≤ t from h1) (show s + 1 ≤ t from h1)
    have := h.2; have := h'.1; omega
  · exact h1
  · have := Nat.mul_le_mul (show t + 1 ≤ s from h1) (show t + 1 ≤ s from h1)
    have := h'.2; have := h.1; omega
theorem newt_pos {n x : Nat} (hn : 0 < n) (hx : 0 < x) : 0 < newt n x := by
  have := newt_up (n := n) hx
  rcases Nat.eq_zero_or_pos (newt n x) with h | h
  · rw [h] at this; omega
  · exact h
theorem first_up (n : Nat) : n < (2 ^ ((bits n + 1) / 2) + 1) * (2 ^ ((bits n + 1) / 2) + 1) := by
  have h1 := lt_two_pow_bits n
  have h2 : 2 ^ bits n ≤ 2 ^ ((bits n + 1) / 2) * 2 ^ ((bits n + 1) / 2) := by
    rw [← Nat.pow_add]
    exact Nat.pow_le_pow_right (by decide) (by omega)
  have h3 := Nat.mul_le_mul (show 2 ^ ((bits n + 1) / 2) ≤ 2 ^ ((bits n + 1) / 2) + 1 from by omega) (show 2 ^ ((bits n + 1) / 2) ≤ 2 ^ ((bits n + 1) / 2) + 1 from by omega)
  omega
end Go.Proofs.YtkkiinbgjjjcoaaGreatDoor
end

section
namespace Go.Proofs.YtkkiinbgjjjcoaaGreatDoor
open Go.RowKit

theorem join64 {x y : Nat} (hx : x < 4294967296) (hy : y < 4294967296) :
    Go.bits BinOp.or IntKind.u64 ((y : Int) * 4294967296) (x : Int) = ((x + 4294967296 * y : Nat) : Int) := by
  rw [show (y : Int) * 4294967296 = ((y * 2 ^ 32 : Nat) : Int) from by rw [Int.natCast_mul]; rfl, u64_or_nat _ _ (by omega) (by omega), nat_join 32 _ _ (Nat.mul_mod_left _ _) hx]
  congr 1; omega
theorem ret_div32 {a b : Int} {c d : Nat} (h : a = c) (h' : b = d) : Ending.returned (.tuple #[.int .u32 a, .int .u32 b]) = .returned (.tuple #[.int .u32 (c : Int), .int .u32 (d : Int)]) := by rw [h, h']
set_option maxHeartbeats 1000000 in
theorem div32_any (hi lo y : Nat) (w : World) (hlo : lo < 4294967296) (hy : y < 4294967296) (hlt : hi < y) :
    Calls Tryz.prog 113 #[.int .u32 hi, .int .u32 lo, .int .u32 y] w fun e w' =>
      e = .returned (.tuple #[.int .u32 ((lo + 4294967296 * hi) / y : Nat), .int .u32 ((lo + 4294967296 * hi) % y : Nat)]) ∧ Kp w w' := by
  have hor := join64 hlo (show hi < 4294967296 by omega)
  have Hq := Lib.hid (short_digit hlo hlt)
  have Hr := Lib.hid (Nat.lt_trans (Nat.mod_lt (lo + 4294967296 * hi) (by omega : y > 0)) hy)
  have hy0 : (y : Int) ≠ 0 := by omega
  have hy1 : ((y : Int) == 0) = false := beq_eq_false_iff_ne.2 hy0
  have hy2 : ((y : Int) != 0) = true := by rw [bne, hy1]; rfl
  have hle : ¬ (y : Int) ≤ (hi : Int) := by omega
  have hw : ((hi : Int) * 4294967296) % 18446744073709551616 = (hi : Int) * 4294967296 := by omega
  go_enter Tryz.func113, Tryz.ntmps113
  go_wp2_with fail
  go_quiet (fail)
  go_wp2_with fail
  refine bodyPost_ret (v := .tuple #[.int .u32 (((lo : Int) + 4294967296 * hi) / y % 4294967296), .int .u32 (((lo : Int) + 4294967296 * hi) % y % 4294967296)]) (by simp [results, Tryz.results113, go_sem]) rfl ?_
  have e1 : ((lo : Int) + 4294967296 * hi) / y = (((lo + 4294967296 * hi) / y : Nat) : Int) := by rw [Int.natCast_ediv, Int.natCast_add, Int.natCast_mul]; rfl
  have e2 : ((lo : Int) + 4294967296 * hi) % y = (((lo + 4294967296 * hi) % y : Nat) : Int) := by rw [Int.natCast_emod, Int.natCast_add, Int.natCast_mul]; rfl
  have hq := Hq.out
  have hr := Hr.out
  rw [e1, e2]
  generalize (lo + 4294967296 * hi) / y = q at *
  generalize (lo + 4294967296 * hi) % y = r at *
  exact ⟨ret_div32 (by omega) (by omega), (Kp.refl w).drewN _⟩

/-- a division's result: quotient and rest, in slices that need not be trimmed -/
def ShortOut (w : World) (xs : List Nat) (d : Nat) (e : Ending) (w' : World) : Prop :=
  ∃ g zs r, e = .returned (.tuple #[.slice (some ⟨g, 0, none⟩) xs.length xs.length, .int .u32 (r : Nat)]) ∧ zs.length = xs.length ∧ val zs * d + r = val xs ∧ r < d ∧ Rd w' (some ⟨g, 0, none⟩) zs ∧ Kp w w'
set_option maxHeartbeats 2000000 in
theorem short_any (a : Option Addr) (xs : List Nat) (c d : Nat) (w : World) (hx : Rd w a xs) (hxl : xs.length ≤ 1000) (hd0 : 0 < d) (hd : d < 4294967296) :
    Calls Tryz.prog 103 #[.slice a xs.length c, .int .u32 d] w (ShortOut w xs d) := by
  go_enter Tryz.func103, Tryz.ntmps103
  have hmk := make_u32 (xs.length : Int) xs.length rfl (by omega)
  go_wp2
  clear hmk
  go_loopw [7, 8] (fun cy ix wr => ∃ (k r : Nat) (zs : List Nat), k ≤ xs.length ∧ ix = .int .i64 ((k : Int) - 1) ∧ cy = .int .u32 (r : Nat) ∧ r < d ∧ zs.length = xs.length ∧ Blk wr w.heap.size zs ∧ Lt32 zs ∧
      val (zs.drop k) * d + r = val (xs.drop k) ∧ Kp w wr) (fun _ ix _ => (intOf ix + 1).toNat)
  case atStart => exact ⟨xs.length, 0, _, Nat.le_refl _, rfl, rfl, hd0, by simp, Blk.made _ _, .replicate _, by simp [val], (Kp.refl _).alloc _⟩
  case round =>
    obtain ⟨k, r, zs, hk, rfl, rfl, hr, hzl, hb, hz32, hvz, hkp⟩ := hrel
    have Hvz := Lib.hid hvz
    have Hzl := Lib.hid hzl
    clear hvz
    rcases k with _ | j
    · rw [show (((0 : Nat) : Int) - 1) = -1 from rfl]
      go_wp2_with fail
      go_ret2
      have e2 := Hvz.out
      rw [List.drop_zero, List.drop_zero] at e2
      exact ⟨_, zs, r, rfl, Hzl.out, e2, hr, hb.rd hz32, hkp⟩
    · rw [show (((j + 1 : Nat) : Int) - 1) = (j : Int) from by omega]
      obtain ⟨b1, o1, rfl, hcx⟩ := (hx.kp hkp).some (i := j) (by omega)
      have hx1 := hcx j (by omega)
      have bx := hx.lt32.nth j
      have hs1 := hb.cell (i := j) (by omega)
      have hs2 := hb.frozen j
      have Hd := Lib.hid (short_digit bx hr)
      have Hst := Lib.hid (short_step (by omega) Hzl.out hr Hvz.out)
      have Hm := Lib.hid (Nat.mod_lt (nth xs j + 4294967296 * r) hd0)
      clear hcx
      go_wp2_with fail
      refine (div32_any r (nth xs j) d _ bx hd hr).mono ?_
      rintro e w2 ⟨rfl, hk2⟩
      have hb2 := hb.kp hk2
      have hs3 := hb2.cell (i := j) (by omega)
      have hs4 := hb2.frozen j
      clear hs1 hs2
      go_wp2_with fail
      go_roundw
      case rel =>
        exact ⟨j, (nth xs j + 4294967296 * r) % d, zs.set j ((nth xs j + 4294967296 * r) / d), by omega, by go_num, rfl, Hm.out, by simp [Hzl.out], hb2.set _ _, hz32.set _ _ Hd.out, Hst.out, (hkp.trans hk2).set (Nat.le_refl _) _⟩
      all_goals (simp [intOf]; try omega)
end Go.Proofs.YtkkiinbgjjjcoaaGreatDoor
end

section
namespace Go.Proofs.YtkkiinbgjjjcoaaGreatDoor
open Go.RowKit

/-- quotient and rest of a division, in slices that need not be trimmed -/
def DivOut (w : World) (n m l : Nat) (e : Ending) (w' : World) : Prop :=
  ∃ a1 c1 qs a2 c2 rs, e = .returned (.tuple #[.slice a1 qs.length c1, .slice a2 rs.length c2]) ∧ qs.length ≤ c1 ∧ c1 ≤ maxLen ∧ rs.length ≤ c2 ∧ c2 ≤ maxLen ∧ Rd w' a1 qs ∧ Rd w' a2 rs ∧
    val qs = n / m ∧ val rs = n % m ∧ qs.length ≤ l ∧ rs.length ≤ l ∧ Kp w w'
theorem one_limb {n : Nat} (h : (limbs n).length = 1) : nth (limbs n) 0 = n ∧ 0 < n ∧ n < 4294967296 := by
  have h0 : n ≠ 0 := fun k => by subst k; rw [limbs_zero] at h; cases h
  have h1 : n < 4294967296 ^ 1 := limbs_length_le.1 (by omega)
  have h2 := val_limbs n
  match hl : limbs n, h with
  | [x], _ =>
    rw [hl] at h2
    refine ⟨?_, by omega, by simpa using h1⟩
    rw [nth_cons_zero]
    simpa [val] using h2
set_option maxRecDepth 100000 in
set_option maxHeartbeats 4000000 in
theorem divide1_any (a b : Option Addr) (xs ys : List Nat) (c d : Nat) (w : World) (hx : Rd w a xs) (hy : Rd w b ys) (hxl : xs.length ≤ 256) (hxc : xs.length ≤ c) (hyc : ys.length ≤ d) (hc : c ≤ maxLen) (hd : d ≤ maxLen) (h1 : (limbs (val ys)).length = 1) :
    Calls Tryz.prog 84 #[.slice a xs.length c, .slice b ys.length d] w (DivOut w (val xs) (val ys) 256) := by
  have H1 := Lib.hid (trim_any a xs c w hx hxc hc)
  have H2 := Lib.hid (trim_any b ys d w hy hyc hd)
  have g1 := hx.limbs
  have g2 := hy.limbs
  have hl1 := limbs_len_le hx.lt32
  have hl2 := limbs_len_le hy.lt32
  have Hv1 := Lib.hid (val_limbs (val xs))
  have Hv2 := Lib.hid (val_limbs (val ys))
  have Ho := Lib.hid (one_limb h1)
  have H11 := Lib.hid h1
  clear h1
  have hcu : (limbs (val xs)).length ≤ c := by omega
  have hcv : (limbs (val ys)).length ≤ d := by omega
  go_enter Tryz.func84, Tryz.ntmps84
  go_wp2_with fail
  refine H1.out.mono ?_
  rintro e w2 ⟨rfl, rfl⟩
  go_wp2_with fail
  refine H2.out.mono ?_
  rintro e w2 ⟨rfl, rfl⟩
  clear H1 H2 hx hy
  generalize val xs = m at *
  generalize val ys = n at *
  generalize limbs m = us at *
  generalize limbs n = vs at *
  have hul : us.length ≤ 256 := by omega
  clear hxl hxc hyc hl1 hl2
  go_wp2_with fail
  refine (cmp_any a b us vs c d _ g1 g2 hcu hcv hc hd).mono ?_
  rw [Hv1.out, Hv2.out]
  rintro e w3 ⟨rfl, hk3⟩
  by_cases hlt : m < n
  · have hcm : cmpN m n < 0 := by rw [cmpN_lt hlt]; decide
    have Hlt := Lib.hid hlt
    clear hlt
    go_wp2_with fail
    refine (clone_any a us c _ (g1.kp hk3) (by omega)).mono ?_
    rintro e w4 ⟨a4, c4, rfl, r4, l4, m4, hk4⟩
    go_wp2_with fail
    refine bodyPost_ret (v := .tuple #[.slice none 0 0, .slice a4 us.length c4]) (by simp [results, Tryz.results84, go_sem]) rfl ?_
    exact ⟨none, 0, [], a4, c4, us, rfl, Nat.le_refl _, by decide, l4, m4, .nil _ _, r4, by rw [Nat.div_eq_of_lt Hlt.out]; rfl, by rw [Nat.mod_eq_of_lt Hlt.out]; exact Hv1.out, Nat.zero_le _, hul, hk3.trans hk4⟩
  · have hcm : ¬ cmpN m n < 0 := by
      rcases Nat.lt_or_eq_of_le (Nat.le_of_not_lt hlt) with h | h
      · unfold cmpN; split <;> (try split) <;> omega
      · unfold cmpN; split <;> (try split) <;> omega
    clear hlt
    obtain ⟨b1, o1, rfl, hcx⟩ := (g2.kp hk3).some (i := 0) (by have := H11.out; omega)
    have hy0 := hcx 0 (by have := H11.out; omega)
    obtain ⟨e0, hn0, hn1⟩ := Ho.out
    rw [e0, Nat.add_zero] at hy0
    have hpos : (0 : Int) < (vs.length : Int) := by have := H11.out; omega
    have h1b : ((vs.length : Int) == 1) = true := by rw [H11.out]; rfl
    clear hcx e0
    go_wp2_with fail
    refine (short_any a us c n _ (g1.kp hk3) (by omega) hn0 hn1).mono ?_
    rintro e w4 ⟨g, zs, r, rfl, hzl, hzv, hr, hrd, hk4⟩
    rw [← hzl]
    have Hz := Lib.hid (show val zs = m / n ∧ r = m % n by
      rw [Hv1.out] at hzv
      have h2 := Nat.div_mod_unique hn0 (a := m) (c := r) (d := val zs)
      have h3 := h2.2 ⟨by rw [← hzv, Nat.mul_comm]; omega, hr⟩
      exact ⟨h3.1.symm, h3.2.symm⟩)
    have hzl2 : zs.length ≤ 256 := by omega
    have hrn : r < 4294967296 := by omega
    have hk5 := (hk3.trans hk4).alloc (.cells #[.int .u32 (r : Nat)] 35)
    have hrd5 := hrd.kp ((Kp.refl w4).alloc (.cells #[.int .u32 (r : Nat)] 35))
    have hr5 : Rd (w4.alloc (.cells #[.int .u32 (r : Nat)] 35)) (some ⟨w4.heap.size, 0, none⟩) [r] := ⟨.cons hrn .nil, .inr ⟨_, 0, rfl, fun i hi => by
      have : i = 0 := by simpa using hi
      subst this
      simp [nth_cons_zero]⟩⟩
    clear hzv hzl hrd
    go_wp2_with fail
    refine bodyPost_ret (v := .tuple #[.slice (some ⟨g, 0, none⟩) zs.length zs.length, .slice (some ⟨w4.heap.size, 0, none⟩) 1 1]) (by simp [results, Tryz.results84, go_sem]) rfl ?_
    exact ⟨_, _, zs, _, 1, [r], rfl, Nat.le_refl _, by unfold maxLen; omega, Nat.le_refl _, by decide, hrd5, hr5, Hz.out.1, by rw [← Hz.out.2]; simp [val], hzl2, by simp, hk5⟩
end Go.Proofs.YtkkiinbgjjjcoaaGreatDoor
end
