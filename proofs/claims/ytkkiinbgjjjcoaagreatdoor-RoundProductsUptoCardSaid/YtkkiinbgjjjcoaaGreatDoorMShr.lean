/-
  Walks: natural.shr.
  Walks: natural.Add, Sub, Mul, Shl, Shr.
  Walks: slices.Clone of limbs, dyadic.trimmed, size, low.
-/
import Derived.Test.YtkkiinbgjjjcoaaGreatDoorMCmp
import Derived.Test.YtkkiinbgjjjcoaaGreatDoorMLong
import Derived.Test.YtkkiinbgjjjcoaaGreatDoorMMul
section
namespace Go.Proofs.YtkkiinbgjjjcoaaGreatDoor
open Go.RowKit

theorem shr_or {x y : Nat} (hx : x < 4294967296) (hy : y < 4294967296) :
    Go.bits BinOp.or IntKind.u64 (x : Int) ((y : Int) * 4294967296) = ((x + 4294967296 * y : Nat) : Int) := by
  rw [show (y : Int) * 4294967296 = ((y * 2 ^ 32 : Nat) : Int) from by rw [Int.natCast_mul]; rfl, u64_or_nat _ _ (by omega) (by omega), Nat.or_comm, nat_join 32 _ _ (Nat.mul_mod_left _ _) hx]
  congr 1; omega
theorem cast_shr (x y p : Nat) : ((x : Int) + 4294967296 * y) / 2 ^ p % 4294967296 = (((x + 4294967296 * y) / 2 ^ p % 4294967296 : Nat) : Int) := by
  rw [Int.natCast_emod, Int.natCast_ediv, Int.natCast_add, Int.natCast_mul, Int.natCast_pow]; rfl
theorem cast_shr0 (x p : Nat) : (x : Int) / 2 ^ p % 4294967296 = ((x / 2 ^ p % 4294967296 : Nat) : Int) := by
  rw [Int.natCast_emod, Int.natCast_ediv, Int.natCast_pow]; rfl
theorem shr_limb {x y r : Nat} (hx : x < 4294967296) (hr : r < 32) : (x + 4294967296 * y) / 2 ^ r % 4294967296 * 2 ^ r + x % 2 ^ r = x + 4294967296 * (y % 2 ^ r) := by
  have hp := two_pow_pos r
  obtain ⟨C, hC⟩ : ∃ C, 4294967296 = C * 2 ^ r := ⟨2 ^ (32 - r), by rw [← Nat.pow_add, show 32 - r + r = 32 from by omega]⟩
  have e1 : (x + 4294967296 * y) / 2 ^ r = x / 2 ^ r + C * y := by
    rw [hC, Nat.mul_right_comm, Nat.add_mul_div_right _ _ hp]
  have hxC : x / 2 ^ r < C := by rw [Nat.div_lt_iff_lt_mul hp]; omega
  have e2 : C * y = C * (y % 2 ^ r) + 4294967296 * (y / 2 ^ r) := by
    have := Nat.div_add_mod y (2 ^ r)
    rw [hC, Nat.mul_assoc, ← Nat.mul_add]; congr 1; omega
  have hlt : C * (y % 2 ^ r) + C ≤ 4294967296 := by
    have := Nat.mul_le_mul_left C (show y % 2 ^ r + 1 ≤ 2 ^ r from Nat.mod_lt y hp)
    rw [Nat.mul_add, Nat.mul_one] at this
    omega
  have e3 : (x / 2 ^ r + C * y) % 4294967296 = x / 2 ^ r + C * (y % 2 ^ r) := by
    rw [e2, ← Nat.add_assoc, Nat.add_mul_mod_self_left]
    exact Nat.mod_eq_of_lt (by omega)
  rw [e1, e3, Nat.add_mul]
  have e4 := Nat.div_add_mod x (2 ^ r)
  have e5 : C * (y % 2 ^ r) * 2 ^ r = 4294967296 * (y % 2 ^ r) := by rw [Nat.mul_right_comm, ← hC]
  rw [Nat.mul_comm] at e4
  omega
theorem shr_step {zs vs : List Nat} {k r z t : Nat} (hk : k < zs.length) (h : val (zs.take k) * 2 ^ r + t = val (vs.take k) + 4294967296 ^ k * (nth vs k % 2 ^ r))
    (hz : z * 2 ^ r + nth vs k % 2 ^ r = nth vs k + 4294967296 * (nth vs (k + 1) % 2 ^ r)) :
    val ((zs.set k z).take (k + 1)) * 2 ^ r + t = val (vs.take (k + 1)) + 4294967296 ^ (k + 1) * (nth vs (k + 1) % 2 ^ r) := by
  rw [val_take_set hk, val_take_step vs, Nat.pow_succ, Nat.mul_assoc, Nat.add_mul, Nat.mul_assoc]
  generalize 4294967296 ^ k = P at *
  have e : P * (z * 2 ^ r + nth vs k % 2 ^ r) = P * (z * 2 ^ r) + P * (nth vs k % 2 ^ r) := Nat.mul_add _ _ _
  rw [hz, Nat.mul_add] at e
  omega

set_option maxHeartbeats 1000000 in
set_option maxRecDepth 100000 in
theorem shr_any (a : Option Addr) (xs : List Nat) (c n : Nat) (w : World) (hx : Rd w a xs) (hxc : xs.length ≤ c) (hc : c ≤ maxLen) (hxl : xs.length ≤ 1100000) (hn : n ≤ 65536) :
    Calls Tryz.prog 89 #[.slice a xs.length c, .int .i64 n] w (MadeC w (val xs / 2 ^ n) ((limbs (val xs)).length - n / 32)) := by
  have H1 := Lib.hid (trim_any a xs c w hx hxc hc)
  have h1 := hx.limbs
  have hl1 := limbs_len_le hx.lt32
  have Hv1 := Lib.hid (val_limbs (val xs))
  go_enter Tryz.func89, Tryz.ntmps89
  go_wp2_with fail
  refine H1.out.mono ?_
  rintro e w2 ⟨rfl, rfl⟩
  clear H1 hx
  generalize limbs (val xs) = us at *
  by_cases hq : us.length ≤ n / 32
  · have hq2 : (us.length : Int) ≤ (n : Int) / 32 := by omega
    go_wp2_with fail
    go_ret
    have h2 := val_lt h1.lt32
    rw [Hv1.out, pow32] at h2
    refine ⟨none, 0, [], ret_len (by omega), by simp; omega, by omega, by unfold maxLen; omega, ?_, .nil _ _, .refl _⟩
    rw [Nat.div_eq_of_lt (Nat.lt_of_lt_of_le h2 (Nat.pow_le_pow_right (by decide) (by omega)))]; rfl
  · have hq2 : ¬ (us.length : Int) ≤ (n : Int) / 32 := by omega
    obtain ⟨b1, o1, rfl, _⟩ := h1.some (i := 0) (by omega)
    have h2 := h1.drop (n / 32)
    have hcap : us.length ≤ c := by omega
    have hq3 : (n : Int) / 32 < us.length := by omega
    have hvl : (us.drop (n / 32)).length = us.length - n / 32 := List.length_drop
    have hval : val (us.drop (n / 32)) = val us / 4294967296 ^ (n / 32) := by
      have e := val_take_drop us (n / 32) (by omega)
      have b := val_lt (h1.lt32.take (n / 32))
      rw [List.length_take, Nat.min_eq_left (by omega)] at b
      rw [e, Nat.add_mul_div_left _ _ (Nat.pow_pos (by decide)), Nat.div_eq_of_lt b, Nat.zero_add]
    have Hval := Lib.hid hval
    clear hq2 hval h1
    generalize us.drop (n / 32) = vs at *
    have hr : n % 32 < 32 := Nat.mod_lt _ (by decide)
    have hvl2 : us.length - n / 32 ≤ vs.length := by omega
    have Hvl := Lib.hid hvl
    clear hvl
    have hmk := make_u32 ((us.length - n / 32 : Nat) : Int) (us.length - n / 32) rfl (by omega)
    go_wp2_with fail
    clear hmk
    go_loopw [25] (fun ix wr => ∃ (k : Nat) (zs : List Nat), k ≤ us.length - n / 32 ∧ ix = .int .i64 k ∧ zs.length = us.length - n / 32 ∧ Blk wr w.heap.size zs ∧ Lt32 zs ∧
      val (zs.take k) * 2 ^ (n % 32) + nth vs 0 % 2 ^ (n % 32) = val (vs.take k) + 4294967296 ^ k * (nth vs k % 2 ^ (n % 32)) ∧ Kp w wr) (fun ix _ => (us.length - n / 32) - (intOf ix).toNat)
    case atStart => exact ⟨0, _, Nat.zero_le _, rfl, by simp, Blk.made _ _, .replicate _, by simp [val], (Kp.refl _).alloc _⟩
    case round =>
      obtain ⟨k, zs, hk, rfl, hzl, hb, hz32, hvz, hkp⟩ := hrel
      have Hvz := Lib.hid hvz
      have Hzl := Lib.hid hzl
      clear hvz
      by_cases hlt : k < us.length - n / 32
      · obtain ⟨b2, o2, e2, hcx⟩ := (h2.kp hkp).some (i := k) (by omega)
        cases e2
        have hx1 := hcx k (by omega)
        have bx := h2.lt32.nth k
        have bx2 := h2.lt32.nth (k + 1)
        have hs1 := hb.cell (i := k) (by omega)
        have hs2 := hb.frozen k
        have Hst := Lib.hid (fun z => shr_step (zs := zs) (z := z) (by omega) Hvz.out)
        have Hl := Lib.hid (shr_limb (y := nth vs (k + 1)) bx hr)
        by_cases hlt2 : k + 1 < us.length - n / 32
        · have hx2 := hcx (k + 1) (by omega)
          have hor := shr_or bx bx2
          clear hcx
          go_wp2_with fail
          go_roundw
          case rel =>
            refine ⟨k + 1, zs.set k ((nth vs k + 4294967296 * nth vs (k + 1)) / 2 ^ (n % 32) % 4294967296), by omega, by go_num, by simp [Hzl.out], hb.put (cast_shr _ _ _), hz32.set _ _ (Nat.mod_lt _ (by decide)), Hst.out _ Hl.out, hkp.set (Nat.le_refl _) _⟩
          case measure => simp [intOf]; omega
        · have h0 : nth vs (k + 1) = 0 := nth_ge (by rw [Hvl.out]; omega)
          have H0 := Lib.hid h0
          clear hcx h0
          go_wp2_with fail
          go_roundw
          case rel =>
            have h3 := Hl.out
            rw [H0.out, Nat.mul_zero, Nat.add_zero] at h3
            refine ⟨k + 1, zs.set k (nth vs k / 2 ^ (n % 32) % 4294967296), by omega, by go_num, by simp [Hzl.out], hb.put (cast_shr0 _ _), hz32.set _ _ (Nat.mod_lt _ (by decide)), Hst.out _ (by rw [H0.out]; exact h3), hkp.set (Nat.le_refl _) _⟩
          case measure => simp [intOf]; omega
      · have hke : k = us.length - n / 32 := by omega
        have Hke := Lib.hid hke
        clear hke
        go_wp2_with fail
        go_ret
        have e2 := Hvz.out
        have h0 : nth vs k = 0 := nth_ge (by rw [Hvl.out, Hke.out]; omega)
        rw [h0, Nat.zero_mod, Nat.mul_zero, Nat.add_zero, Hke.out, List.take_of_length_le (by rw [Hzl.out]; omega), List.take_of_length_le (by rw [Hvl.out]; omega)] at e2
        have hlt3 := Nat.mod_lt (nth vs 0) (two_pow_pos (n % 32))
        have e3 : val zs = val vs / 2 ^ (n % 32) := by
          rw [← e2, Nat.mul_comm, Nat.mul_add_div (two_pow_pos _), Nat.div_eq_of_lt hlt3, Nat.add_zero]
        refine ⟨_, us.length - n / 32, zs, ret_len rfl, Hzl.out, Nat.le_refl _, by unfold maxLen; omega, ?_, hb.rd hz32, hkp⟩
        rw [e3, Hval.out, Hv1.out, Nat.div_div_eq_div_mul, pow_split]
end Go.Proofs.YtkkiinbgjjjcoaaGreatDoor
end

section
namespace Go.Proofs.YtkkiinbgjjjcoaaGreatDoor
open Go.RowKit

set_option maxHeartbeats 400000 in
theorem Add_any (a b : Option Addr) (xs ys : List Nat) (c d : Nat) (w : World) (hx : Rd w a xs) (hy : Rd w b ys) (hxl : xs.length ≤ 256) (hyl : ys.length ≤ 256) (hv : (limbs (val xs + val ys)).length ≤ 256) :
    Calls Tryz.prog 82 #[.slice a xs.length c, .slice b ys.length d] w (Nat2 w (val xs + val ys) 0) := by
  have Hv := Lib.hid hv
  clear hv
  go_enter Tryz.func82, Tryz.ntmps82
  go_wp2_with fail
  refine (long_two a b xs.length c ys.length d _ _ hxl hyl (by simp) (by simp)).mono ?_
  rintro e w1 ⟨rfl, hk1⟩
  have hk : Kp w w1 := ((Kp.refl w).alloc _).trans hk1
  clear hk1
  go_wp2_with fail
  refine (add_any a b xs ys c d _ (hx.kp hk) (hy.kp hk) (by omega) (by omega)).mono ?_
  rintro e w2 ⟨g, zs, rfl, hzl, hzv, hrd, hk2⟩
  have hm : zs.length ≤ maxLen := by rw [hzl]; unfold maxLen; omega
  rw [← hzl]
  have Hzv := Lib.hid hzv
  clear hzv hzl
  go_wp2_with fail
  refine (done_ok _ zs _ _ hrd (Nat.le_refl _) hm (by rw [Hzv.out]; exact Hv.out)).mono ?_
  rintro e w3 ⟨a3, c3, rfl, h1, h2, h3, h4⟩
  go_wp2_with fail
  go_ret2
  rw [Hzv.out] at h1 h3 ⊢
  exact ⟨a3, c3, rfl, h1, h2, h3, (hk.trans hk2).trans h4⟩

set_option maxHeartbeats 400000 in
theorem Mul_any (a b : Option Addr) (xs ys : List Nat) (c d : Nat) (w : World) (hx : Rd w a xs) (hy : Rd w b ys) (hxl : xs.length ≤ 256) (hyl : ys.length ≤ 256) (hxc : xs.length ≤ c) (hyc : ys.length ≤ d) (hc : c ≤ maxLen) (hd : d ≤ maxLen) (hv : (limbs (val xs * val ys)).length ≤ 256) :
    Calls Tryz.prog 37 #[.slice a xs.length c, .slice b ys.length d] w (Nat2 w (val xs * val ys) 0) := by
  have Hv := Lib.hid hv
  clear hv
  have hl1 := limbs_len_le hx.lt32
  have hl2 := limbs_len_le hy.lt32
  go_enter Tryz.func37, Tryz.ntmps37
  go_wp2_with fail
  refine (long_two a b xs.length c ys.length d _ _ hxl hyl (by simp) (by simp)).mono ?_
  rintro e w1 ⟨rfl, hk1⟩
  have hk : Kp w w1 := ((Kp.refl w).alloc _).trans hk1
  clear hk1
  go_wp2_with fail
  refine (trim_any a xs c w1 (hx.kp hk) hxc hc).mono ?_
  rintro e w2 ⟨rfl, rfl⟩
  go_wp2_with fail
  refine (trim_any b ys d w1 (hy.kp hk) hyc hd).mono ?_
  rintro e w2 ⟨rfl, rfl⟩
  go_wp2_with fail
  refine (mul_any a b (limbs (val xs)) (limbs (val ys)) c d _ (hx.kp hk).limbs (hy.kp hk).limbs (by omega) (by omega)).mono ?_
  rintro e w2 ⟨g, zs, rfl, hzl, hzv, hrd, hk2⟩
  rw [val_limbs, val_limbs] at hzv
  have hm : zs.length ≤ maxLen := by rw [hzl]; unfold maxLen; omega
  rw [← hzl]
  have Hzv := Lib.hid hzv
  clear hzv hzl
  go_wp2_with fail
  refine (done_ok _ zs _ _ hrd (Nat.le_refl _) hm (by rw [Hzv.out]; exact Hv.out)).mono ?_
  rintro e w3 ⟨a3, c3, rfl, h1, h2, h3, h4⟩
  go_wp2_with fail
  go_ret2
  rw [Hzv.out] at h1 h3 ⊢
  exact ⟨a3, c3, rfl, h1, h2, h3, (hk.trans hk2).trans h4⟩

set_option maxHeartbeats 400000 in
theorem Sub_any (a b : Option Addr) (xs ys : List Nat) (c d : Nat) (w : World) (hx : Rd w a xs) (hy : Rd w b ys) (hxl : xs.length ≤ 256) (hyl : ys.length ≤ 256) (hxc : xs.length ≤ c) (hyc : ys.length ≤ d) (hc : c ≤ maxLen) (hd : d ≤ maxLen) (hle : val ys ≤ val xs) :
    Calls Tryz.prog 83 #[.slice a xs.length c, .slice b ys.length d] w (Nat2 w (val xs - val ys) 0) := by
  have hl1 := limbs_len_le hx.lt32
  have Hv := Lib.hid (Nat.le_trans (limbs_length_mono (Nat.sub_le (val xs) (val ys))) (Nat.le_trans hl1 hxl))
  have Hcmp := Lib.hid hle
  have hcm : ¬ cmpN (val xs) (val ys) < 0 := by unfold cmpN; rw [if_neg (by omega)]; split <;> omega
  go_enter Tryz.func83, Tryz.ntmps83
  go_wp2_with fail
  refine (long_two a b xs.length c ys.length d _ _ hxl hyl (by simp) (by simp)).mono ?_
  rintro e w1 ⟨rfl, hk1⟩
  have hk : Kp w w1 := ((Kp.refl w).alloc _).trans hk1
  clear hk1
  go_wp2_with fail
  refine (cmp_any a b xs ys c d _ (hx.kp hk) (hy.kp hk) hxc hyc hc hd).mono ?_
  rintro e w2 ⟨rfl, hk2⟩
  have hk' := hk.trans hk2
  clear hk hk2
  go_wp2_with fail
  refine (sub_any a b xs ys c d _ (hx.kp hk') (hy.kp hk') (by omega) hxc hyc hc hd Hcmp.out).mono ?_
  rintro e w3 ⟨g, zs, rfl, hzl, hzv, hrd, hk3⟩
  have hm : zs.length ≤ maxLen := by rw [hzl]; unfold maxLen; omega
  rw [← hzl]
  have Hzv := Lib.hid hzv
  clear hzv hzl
  go_wp2_with fail
  refine (done_ok _ zs _ _ hrd (Nat.le_refl _) hm (by rw [Hzv.out]; exact Hv.out)).mono ?_
  rintro e w4 ⟨a3, c3, rfl, h1, h2, h3, h4⟩
  go_wp2_with fail
  go_ret2
  rw [Hzv.out] at h1 h3 ⊢
  exact ⟨a3, c3, rfl, h1, h2, h3, (hk'.trans hk3).trans h4⟩

set_option maxHeartbeats 400000 in
theorem Shl_any (a : Option Addr) (xs : List Nat) (c : Nat) (n : Int) (w : World) (hx : Rd w a xs) (hxl : xs.length ≤ 256) (hxc : xs.length ≤ c) (hc : c ≤ maxLen) (h0 : 0 ≤ n) (hn : n ≤ 65536) (hv : (limbs (val xs * 2 ^ n.toNat)).length ≤ 256) :
    Calls Tryz.prog 86 #[.slice a xs.length c, .int .i64 n] w (Nat2 w (val xs * 2 ^ n.toNat) 0) := by
  obtain ⟨n, rfl⟩ := Int.eq_ofNat_of_zero_le h0
  rw [Int.toNat_natCast] at hv ⊢
  have Hv := Lib.hid hv
  clear hv
  have hl1 := limbs_len_le hx.lt32
  go_enter Tryz.func86, Tryz.ntmps86
  go_wp2_with fail
  refine (long_one a xs.length c _ _ hxl (by simp)).mono ?_
  rintro e w1 ⟨rfl, hk1⟩
  have hk : Kp w w1 := ((Kp.refl w).alloc _).trans hk1
  clear hk1
  go_wp2_with fail
  refine (shl_any a xs c n _ (hx.kp hk) hxc hc (by omega) (by omega)).mono ?_
  rintro e w3 ⟨a2, c2, zs, rfl, hzl, hzc, hcm, hzv, hrd, hk3⟩
  rw [← hzl] at hzc ⊢
  have Hzv := Lib.hid hzv
  clear hzv hzl
  go_wp2_with fail
  refine (done_ok _ zs _ _ hrd hzc hcm (by rw [Hzv.out]; exact Hv.out)).mono ?_
  rintro e w4 ⟨a3, c3, rfl, h1, h2, h3, h4⟩
  go_wp2_with fail
  go_ret2
  rw [Hzv.out] at h1 h3 ⊢
  exact ⟨a3, c3, rfl, h1, h2, h3, (hk.trans hk3).trans h4⟩

set_option maxHeartbeats 400000 in
theorem Shr_any (a : Option Addr) (xs : List Nat) (c : Nat) (n : Int) (w : World) (hx : Rd w a xs) (hxl : xs.length ≤ 256) (hxc : xs.length ≤ c) (hc : c ≤ maxLen) (h0 : 0 ≤ n) (hn : n ≤ 65536) :
    Calls Tryz.prog 101 #[.slice a xs.length c, .int .i64 n] w (Nat2 w (val xs / 2 ^ n.toNat) 0) := by
  obtain ⟨n, rfl⟩ := Int.eq_ofNat_of_zero_le h0
  rw [Int.toNat_natCast]
  have hl1 := limbs_len_le hx.lt32
  have Hv := Lib.hid (Nat.le_trans (limbs_length_mono (Nat.div_le_self (val xs) (2 ^ n))) (Nat.le_trans hl1 hxl))
  go_enter Tryz.func101, Tryz.ntmps101
  go_wp2_with fail
  refine (long_one a xs.length c _ _ hxl (by simp)).mono ?_
  rintro e w1 ⟨rfl, hk1⟩
  have hk : Kp w w1 := ((Kp.refl w).alloc _).trans hk1
  clear hk1
  go_wp2_with fail
  refine (shr_any a xs c n _ (hx.kp hk) hxc hc (by omega) (by omega)).mono ?_
  rintro e w3 ⟨a2, c2, zs, rfl, hzl, hzc, hcm, hzv, hrd, hk3⟩
  rw [← hzl] at hzc ⊢
  have Hzv := Lib.hid hzv
  clear hzv hzl
  go_wp2_with fail
  refine (done_ok _ zs _ _ hrd hzc hcm (by rw [Hzv.out]; exact Hv.out)).mono ?_
  rintro e w4 ⟨a3, c3, rfl, h1, h2, h3, h4⟩
  go_wp2_with fail
  go_ret2
  rw [Hzv.out] at h1 h3 ⊢
  exact ⟨a3, c3, rfl, h1, h2, h3, (hk.trans hk3).trans h4⟩
end Go.Proofs.YtkkiinbgjjjcoaaGreatDoor
end

section
namespace Go.Proofs.YtkkiinbgjjjcoaaGreatDoor
open Go.RowKit

/-- a slice that shows the numbers xs -/
def Shows (w : World) (xs : List Nat) (e : Ending) (w' : World) : Prop :=
  ∃ a c, e = .returned (.slice a xs.length c) ∧ Rd w' a xs ∧ xs.length ≤ c ∧ c ≤ maxLen ∧ Kp w w'

set_option maxHeartbeats 400000 in
theorem clone_any (a : Option Addr) (xs : List Nat) (c : Nat) (w : World) (h : Rd w a xs) (hl : xs.length ≤ 1100000) :
    Calls Tryz.prog 96 #[.slice a xs.length c] w (Shows w xs) := by
  have hn := nil_u32
  cases a with
  | none =>
    have hys : xs = [] := by
      rcases h.2 with h | ⟨b, o, h, _⟩
      · exact h
      · cases h
    subst hys
    go_enter Tryz.func96, Tryz.ntmps96
    go_wp2_with fail
    go_ret
    exact ⟨none, 0, rfl, .nil _ _, Nat.le_refl _, by unfold maxLen; omega, .refl _⟩
  | some ad =>
    go_enter Tryz.func96, Tryz.ntmps96
    go_wp2_with (at_builtin; refine wpList_append_u32s rfl _ _ rfl w.heap.size _ [] rfl (Own.empty w _ (Nat.le_refl _)) (some ad) xs c rfl (h.kp ((Kp.refl w).alloc _)) (by simp; omega) (by simp) ?_; intro a2 c2 w2 hown2 hb2)
    go_ret
    obtain ⟨h5, h6, h7, h8⟩ := hown2.rd
    exact ⟨a2, c2, by simp, h8, h6, h7, ((Kp.refl w).alloc _).below.trans hb2⟩

set_option maxHeartbeats 400000 in
theorem size_any (a : Option Addr) (xs : List Nat) (c : Nat) (w : World) (h : Rd w a xs) (hc : xs.length ≤ c) (hm : c ≤ maxLen) (hl : xs.length ≤ 1100000) :
    Calls Tryz.prog 80 #[.slice a xs.length c] w fun e w' => e = .returned (.int .i64 (bits (val xs))) ∧ w = w' := by
  have H := Lib.hid (bits_any a xs c w h hc hm hl)
  go_enter Tryz.func80, Tryz.ntmps80
  go_wp2_with (refine H.out.mono ?_; rintro e w2 ⟨rfl, rfl⟩)
  go_ret
  exact ⟨rfl, rfl⟩
set_option maxHeartbeats 400000 in
theorem trimmed_any (a : Option Addr) (xs : List Nat) (c : Nat) (w : World) (h : Rd w a xs) (hc : xs.length ≤ c) (hm : c ≤ maxLen) :
    Calls Tryz.prog 109 #[.slice a xs.length c] w fun e w' => e = .returned (.slice a (limbs (val xs)).length c) ∧ w = w' := by
  unfold maxLen at hm
  go_enter Tryz.func109, Tryz.ntmps109
  go_wp2
  go_loop [3] (fun x => ∃ n : Nat, n ≤ xs.length ∧ x = .int .i64 n ∧ ∀ i, n ≤ i → i < xs.length → nth xs i = 0) (fun x => (intOf x).toNat)
  case atStart => exact ⟨xs.length, Nat.le_refl _, rfl, fun i h1 h2 => by omega⟩
  case round =>
    obtain ⟨n, hn, rfl, hz⟩ := hrel
    have Hz := Lib.hid hz; clear hz
    by_cases h0 : n = 0
    · subst h0
      go_wp2
      go_ret
      have := trim_top h.lt32 hn Hz.out (by omega)
      rw [← this]
      exact ⟨rfl, rfl⟩
    · obtain ⟨b, o, rfl, hcell⟩ := h.some (i := n - 1) (by omega)
      have hk := hcell (n - 1) (by omega)
      clear hcell
      by_cases hx : nth xs (n - 1) = 0
      · have hx2 : ((nth xs (n - 1) : Int) == 0) = true := by simp [hx]
        have Hx := Lib.hid hx; clear hx
        go_wp2
        go_round
        case rel =>
          refine ⟨n - 1, by omega, by congr 1; omega, fun i h1 h2 => ?_⟩
          by_cases hi : i = n - 1
          · rw [hi]; exact Hx.out
          · exact Hz.out i (by omega) h2
        case measure => simp [intOf]; omega
      · have hx2 : ((nth xs (n - 1) : Int) == 0) = false := by simp; omega
        go_wp2
        go_ret
        have := trim_top h.lt32 hn Hz.out (fun _ => hx)
        rw [← this, List.length_take, Nat.min_eq_left hn]
        exact ⟨rfl, rfl⟩

theorem tz_add {x r : Nat} (h0 : x ≠ 0) (hx : x < 4294967296) : tz (x + 4294967296 * r) = tz x := by
  obtain ⟨h1, h2⟩ := oddp_spec h0
  have ht : tz x < 32 := by
    apply Classical.byContradiction; intro hn
    have h3 : 2 ^ 32 ≤ 2 ^ tz x := Nat.pow_le_pow_right (by decide) (by omega)
    have h4 : 1 * 2 ^ tz x ≤ oddp x * 2 ^ tz x := Nat.mul_le_mul_right _ (by omega)
    omega
  have e : x + 4294967296 * r = (oddp x + 2 ^ (32 - tz x) * r) * 2 ^ tz x := by
    rw [Nat.add_mul, ← h2, Nat.mul_right_comm, ← Nat.pow_add, show 32 - tz x + tz x = 32 from by omega]
  rw [e]
  refine tz_mul_pow ?_ _
  rw [show 32 - tz x = (31 - tz x) + 1 from by omega, Nat.pow_succ, Nat.mul_assoc, Nat.mul_left_comm, Nat.add_mul_mod_self_left]
  exact h1
theorem tz_limbs {xs : List Nat} {k : Nat} (h : Lt32 xs) (hk : k < xs.length) (hz : ∀ i, i < k → nth xs i = 0) (hx : nth xs k ≠ 0) : tz (val xs) = 32 * k + tz (nth xs k) := by
  have e := val_take_drop xs k (by omega)
  have e0 : val (xs.take k) = 0 := val_zeros fun i hi => by
    rw [List.length_take] at hi
    rw [nth_take (by omega)]; exact hz i (by omega)
  rw [e0, drop_eq_nth hk, val_cons, Nat.zero_add, pow32, Nat.mul_comm] at e
  rw [e, tz_shift (by omega), tz_add hx (h.nth k)]; omega

set_option maxHeartbeats 400000 in
theorem low_any (a : Option Addr) (xs : List Nat) (c : Nat) (w : World) (h : Rd w a xs) (hl : xs.length ≤ 1100000) (h0 : val xs ≠ 0) (hT : Tab w) :
    Calls Tryz.prog 110 #[.slice a xs.length c] w fun e w' => e = .returned (.int .i64 (tz (val xs))) ∧ w = w' := by
  have H0 := Lib.hid h0
  clear h0
  go_enter Tryz.func110, Tryz.ntmps110
  go_wp2_with fail
  go_loop [3, 8] (fun n x => ∃ k : Nat, k ≤ xs.length ∧ x = .int .i64 k ∧ n = .int .i64 (32 * k : Nat) ∧ ∀ i, i < k → nth xs i = 0) (fun _ x => xs.length - (intOf x).toNat)
  case atStart => exact ⟨0, Nat.zero_le _, rfl, rfl, fun i h1 => by omega⟩
  case round =>
    obtain ⟨k, hk, rfl, rfl, hz⟩ := hrel
    have Hz := Lib.hid hz; clear hz
    by_cases hlt : k < xs.length
    · obtain ⟨b, o, rfl, hcell⟩ := h.some hlt
      have hc1 := hcell k hlt
      have bx := h.lt32.nth k
      clear hcell
      by_cases hx : nth xs k = 0
      · have hx2 : ((nth xs k : Int) != 0) = false := by simp [hx]
        have Hx := Lib.hid hx; clear hx
        go_wp2_with fail
        go_round
        case rel =>
          refine ⟨k + 1, by omega, by go_num, by congr 1, fun i h1 => ?_⟩
          by_cases hi : i = k
          · rw [hi]; exact Hx.out
          · exact Hz.out i (by omega)
        case measure => simp [intOf]; omega
      · have hx2 : ((nth xs k : Int) != 0) = true := by simp; omega
        have Hr := Lib.hid (tz_limbs h.lt32 hlt Hz.out hx)
        have ht : tz (nth xs k) ≤ 32 := by
          have := bits_oddp hx
          have h2 := bits_le.2 (show nth xs k < 2 ^ 32 from bx)
          omega
        go_wp2_with fail
        refine (tz32_any _ _ hx bx hT).mono ?_
        rintro e w2 ⟨rfl, rfl⟩
        go_wp2_with fail
        go_ret
        exact ⟨ret_int (by rw [Hr.out]; omega), rfl⟩
    · exfalso
      exact H0.out (val_zeros fun i hi => Hz.out i (by omega))
end Go.Proofs.YtkkiinbgjjjcoaaGreatDoor
end
