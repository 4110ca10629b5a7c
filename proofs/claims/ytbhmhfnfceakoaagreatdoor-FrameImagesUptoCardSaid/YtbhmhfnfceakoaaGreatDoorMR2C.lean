/-
  Walks: the reference's right.
-/
import Derived.Test.YtbhmhfnfceakoaaGreatDoorMKnuE
import Derived.Test.YtbhmhfnfceakoaaGreatDoorMSumH
namespace Go.Proofs.YtbhmhfnfceakoaaGreatDoor
open Go.RowKit
theorem right_step {zs vs : List Nat} {k r z t : Nat} (hk : zs.length = k) (h : val zs * 2 ^ r + t = val (vs.take k) + 4294967296 ^ k * (nth vs k % 2 ^ r))
    (hz : z * 2 ^ r + nth vs k % 2 ^ r = nth vs k + 4294967296 * (nth vs (k + 1) % 2 ^ r)) :
    val (zs ++ [z]) * 2 ^ r + t = val (vs.take (k + 1)) + 4294967296 ^ (k + 1) * (nth vs (k + 1) % 2 ^ r) := by
  rw [val_snoc, hk, val_take_step vs, Nat.pow_succ, Nat.mul_assoc, Nat.add_mul, Nat.mul_assoc]
  generalize 4294967296 ^ k = P at *
  have e : P * (z * 2 ^ r + nth vs k % 2 ^ r) = P * (z * 2 ^ r) + P * (nth vs k % 2 ^ r) := Nat.mul_add _ _ _
  rw [hz, Nat.mul_add] at e
  omega
theorem and_low {s : Nat} (hs : s < 18446744073709551616) : Go.bits BinOp.and IntKind.u64 (s : Int) 4294967295 = ((s % 4294967296 : Nat) : Int) := by
  have h := bits_and_u64_nat s 4294967295 hs (by omega)
  rw [show s &&& 4294967295 = s % 4294967296 from Nat.and_two_pow_sub_one_eq_mod s 32] at h
  exact h
theorem cell_low {x y r : Nat} (hx : x < 4294967296) (hy : y < 4294967296) : (Go.bits BinOp.and IntKind.u64 (((x : Int) + 4294967296 * y) / 2 ^ r) 4294967295) % 4294967296 = (((x + 4294967296 * y) / 2 ^ r % 4294967296 : Nat) : Int) := by
  have e : (((x : Int) + 4294967296 * y) / 2 ^ r) = (((x + 4294967296 * y) / 2 ^ r : Nat) : Int) := by
    rw [Int.natCast_ediv, Int.natCast_add, Int.natCast_mul, Int.natCast_pow]; rfl
  have h1 := Nat.div_le_self (x + 4294967296 * y) (2 ^ r)
  rw [e, and_low (by omega)]
  omega
theorem cell_low0 {x r : Nat} (hx : x < 4294967296) : (Go.bits BinOp.and IntKind.u64 ((x : Int) / 2 ^ r) 4294967295) % 4294967296 = ((x / 2 ^ r % 4294967296 : Nat) : Int) := by
  have := @cell_low x 0 r hx (by decide)
  simpa using this
set_option maxHeartbeats 2000000 in
set_option maxRecDepth 100000 in
theorem r2right_any (a : Option Addr) (xs : List Nat) (c n : Nat) (w : World) (h1 : Rd w a xs) (hxc : xs.length ≤ c) (hc : c ≤ maxLen) (hxl : xs.length ≤ 1100000) (hn : n ≤ 40000000) :
    Calls Tryz.prog 236 #[.slice a xs.length c, .int .i64 n] w (NatOut w (val xs / 2 ^ n)) := by
  have hc' := hc
  by_cases hq : xs.length ≤ n / 32
  · have hq2 : (xs.length : Int) ≤ (n : Int) / 32 := by omega
    have h2 := val_lt h1.lt32
    rw [pow32] at h2
    have hz : val xs / 2 ^ n = 0 := Nat.div_eq_of_lt (Nat.lt_of_lt_of_le h2 (Nat.pow_le_pow_right (by decide) (by omega)))
    rw [hz]
    clear hz h2
    go_enter Tryz.func236, Tryz.ntmps236
    go_wp2_with fail
    go_ret
    exact ⟨none, 0, by rw [limbs_zero]; rfl, by rw [limbs_zero]; exact Nat.le_refl _, by unfold maxLen; omega, by rw [limbs_zero]; exact .nil _ _, .refl _⟩
  have hq2 : ¬ (xs.length : Int) ≤ (n : Int) / 32 := by omega
  obtain ⟨b1, o1, rfl, _⟩ := h1.some (i := 0) (by omega)
  have h2 := h1.drop (n / 32)
  have hq3 : (n : Int) / 32 < xs.length := by omega
  have hvl : (xs.drop (n / 32)).length = xs.length - n / 32 := List.length_drop
  have hval : val (xs.drop (n / 32)) = val xs / 4294967296 ^ (n / 32) := by
    have e := val_take_drop xs (n / 32) (by omega)
    have b := val_lt (h1.lt32.take (n / 32))
    rw [List.length_take, Nat.min_eq_left (by omega)] at b
    rw [e, Nat.add_mul_div_left _ _ (Nat.pow_pos (by decide)), Nat.div_eq_of_lt b, Nat.zero_add]
  have hfin : val xs / 2 ^ n = val (xs.drop (n / 32)) / 2 ^ (n % 32) := by rw [hval, Nat.div_div_eq_div_mul, pow_split]
  rw [hfin]
  clear hval hfin
  generalize xs.drop (n / 32) = vs at *
  have hr : n % 32 < 32 := Nat.mod_lt _ (by decide)
  have Hvl := Lib.hid hvl
  have hvl2 : xs.length - n / 32 ≤ vs.length := by omega
  clear hvl
  go_enter Tryz.func236, Tryz.ntmps236
  go_wp2_with fail
  go_loopw [5, 6] (fun v ix wr => ∃ (k : Nat) (zs : List Nat), k ≤ xs.length - n / 32 ∧ ix = .int .i64 k ∧ zs.length = k ∧ Own wr w.heap.size v zs ∧
    val zs * 2 ^ (n % 32) + nth vs 0 % 2 ^ (n % 32) = val (vs.take k) + 4294967296 ^ k * (nth vs k % 2 ^ (n % 32)) ∧ Kp w wr) (fun _ ix _ => (xs.length - n / 32) - (intOf ix).toNat)
  case atStart => exact ⟨0, [], Nat.zero_le _, rfl, rfl, Own.nil _ _, by simp [val], .refl _⟩
  case round =>
  obtain ⟨k, zs, hk, rfl, hzl, hown, hvz, hkp⟩ := hrel
  have Hvz := Lib.hid hvz
  have Hzl := Lib.hid hzl
  have hzl2 : zs.length + 1 ≤ 9000000 := by omega
  clear hvz hzl
  by_cases hlt : k < xs.length - n / 32
  rotate_left
  · have hke : k = xs.length - n / 32 := by omega
    have e2 := Hvz.out
    have h0 : nth vs k = 0 := nth_ge (by rw [Hvl.out, hke]; omega)
    rw [h0, Nat.zero_mod, Nat.mul_zero, Nat.add_zero, hke, List.take_of_length_le (by rw [Hvl.out]; omega)] at e2
    have hlt3 := Nat.mod_lt (nth vs 0) (two_pow_pos (n % 32))
    have e3 : val zs = val vs / 2 ^ (n % 32) := by
      rw [← e2, Nat.mul_comm, Nat.mul_add_div (two_pow_pos _), Nat.div_eq_of_lt hlt3, Nat.add_zero]
    obtain ⟨a5, c5, e5, l5, m5, r5⟩ := hown.value
    subst e5
    have E3 := Lib.hid e3
    have hT := Lib.hid (r2trim_any a5 zs c5 wr r5 l5 m5 (by have := Hzl.out; omega))
    have hkk := Lib.hid hkp
    clear e2 e3 h0 hlt3 hkp hown
    go_wp2_with fail
    refine hT.out.mono ?_
    rintro e w7 ⟨a6, c6, rfl, l6, m6, r6, k6⟩
    go_wp2_with fail
    go_ret
    rw [← E3.out]
    exact ⟨a6, c6, rfl, l6, m6, r6, hkk.out.trans k6⟩
  obtain ⟨b2, o2, e2, hcx⟩ := (h2.kp hkp).some (i := k) (by omega)
  cases e2
  have hx1 := hcx k (by omega)
  have bx := h2.lt32.nth k
  have bx2 := h2.lt32.nth (k + 1)
  have Hst := Lib.hid (fun z => right_step (z := z) Hzl.out Hvz.out)
  have Hl := Lib.hid (shr_limb (y := nth vs (k + 1)) bx hr)
  by_cases hlt2 : k + 1 < xs.length - n / 32
  · have hx2 := hcx (k + 1) (by omega)
    have hor := shr_or bx bx2
    clear hcx
    have hcl := Lib.hid (cell_low (r := n % 32) bx bx2)
    go_wp2_with (at_builtin; refine wpList_append_u32 rfl _ _ rfl w.heap.size _ _ rfl (hown.alloc _) _ _ rfl (World.cell?_alloc_new _ _ _ _) ((nth vs k + 4294967296 * nth vs (k + 1)) / 2 ^ (n % 32) % 4294967296) hcl.out (Nat.mod_lt _ (by decide)) hzl2 (by have := hkp.size; simp; omega) ?_; intro a2 c2 w2 hown2 hb2)
    go_roundw
    case measure => simp [intOf]; omega
    case rel => exact ⟨k + 1, _, by omega, by go_num, by simp [Hzl.out], hown2, Hst.out _ Hl.out, (hkp.alloc _).below.trans hb2⟩
  have h0 : nth vs (k + 1) = 0 := nth_ge (by rw [Hvl.out]; omega)
  have H0 := Lib.hid h0
  have hcl := Lib.hid (cell_low0 (r := n % 32) bx)
  have hltt : ¬ ((k : Int) + 1 < ((xs.length - n / 32 : Nat) : Int)) := by omega
  clear hcx h0
  go_wp2_with (at_builtin; refine wpList_append_u32 rfl _ _ rfl w.heap.size _ _ rfl (hown.alloc _) _ _ rfl (World.cell?_alloc_new _ _ _ _) (nth vs k / 2 ^ (n % 32) % 4294967296) hcl.out (Nat.mod_lt _ (by decide)) hzl2 (by have := hkp.size; simp; omega) ?_; intro a2 c2 w2 hown2 hb2)
  go_roundw
  case measure => simp [intOf]; omega
  case rel =>
  have h3 := Hl.out
  rw [H0.out, Nat.mul_zero, Nat.add_zero] at h3
  exact ⟨k + 1, _, by omega, by go_num, by simp [Hzl.out], hown2, Hst.out _ (by rw [H0.out]; exact h3), (hkp.alloc _).below.trans hb2⟩
theorem and_lowI {x : Int} {s : Nat} (h : x = s) (hs : s < 18446744073709551616) : Go.bits BinOp.and IntKind.u64 x 4294967295 % 4294967296 = ((s % 4294967296 : Nat) : Int) := by
  subst h
  rw [and_low hs]
  omega
theorem plus_step {zs xs ys : List Nat} {k c z c' : Nat} (hk : zs.length = k) (h : val zs + 4294967296 ^ k * c = val (xs.take k) + val (ys.take k)) (hz : z + 4294967296 * c' = c + nth xs k + nth ys k) :
    val (zs ++ [z]) + 4294967296 ^ (k + 1) * c' = val (xs.take (k + 1)) + val (ys.take (k + 1)) := by
  rw [val_snoc, hk, val_take_step xs, val_take_step ys, Nat.pow_succ, Nat.mul_assoc]
  generalize 4294967296 ^ k = P at *
  have e : P * (z + 4294967296 * c') = P * (c + nth xs k + nth ys k) := by rw [hz]
  rw [Nat.mul_add, Nat.mul_add, Nat.mul_add] at e
  omega
set_option maxHeartbeats 2000000 in
set_option maxRecDepth 100000 in
theorem r2plus_any (a b : Option Addr) (xs ys : List Nat) (c d : Nat) (w : World) (h1 : Rd w a xs) (h2 : Rd w b ys) (hxl : xs.length ≤ 1000000) (hyl : ys.length ≤ 1000000) :
    Calls Tryz.prog 213 #[.slice a xs.length c, .slice b ys.length d] w (NatOut w (val xs + val ys)) := by
  go_enter Tryz.func213, Tryz.ntmps213
  go_wp2_with fail
  go_loopw [5, 6, 7] (fun v cy ix wr => ∃ (k q : Nat) (zs : List Nat), (k ≤ xs.length ∨ k ≤ ys.length) ∧ q ≤ 1 ∧ cy = .int .u64 q ∧ ix = .int .i64 k ∧ zs.length = k ∧ Own wr w.heap.size v zs ∧
      val zs + 4294967296 ^ k * q = val (xs.take k) + val (ys.take k) ∧ Kp w wr) (fun _ _ ix _ => (xs.length + ys.length) - (intOf ix).toNat)
  case atStart => exact ⟨0, 0, [], .inl (Nat.zero_le _), by decide, rfl, rfl, rfl, Own.nil _ _, by simp [val], .refl _⟩
  case round =>
  obtain ⟨k, q, zs, hk, hq, rfl, rfl, hzl, hown, hvz, hkp⟩ := hrel
  have Hvz := Lib.hid hvz
  have Hzl := Lib.hid hzl
  have hzl2 : zs.length + 1 ≤ 9000000 := by omega
  clear hvz
  by_cases hlx : k < xs.length
  · obtain ⟨b1, o1, rfl, hcx⟩ := (h1.kp hkp).some (i := k) (by omega)
    have hx1 := hcx k (by omega)
    have bx := h1.lt32.nth k
    clear hcx
    by_cases hly : k < ys.length
    rotate_left
    · have H0 := Lib.hid (nth_ge (xs := ys) (i := k) (by omega))
      clear hzl
      have Hst := Lib.hid (fun z c' => plus_step (z := z) (c' := c') Hzl.out Hvz.out)
      have hcl := Lib.hid (and_lowI (x := (q : Int) + nth xs k) (s := q + nth xs k) (by omega) (by omega))
      go_wp2_with (at_builtin; refine wpList_append_u32 rfl _ _ rfl w.heap.size _ _ rfl (hown.alloc _) _ _ rfl (World.cell?_alloc_new _ _ _ _) ((q + nth xs k) % 4294967296) hcl.out (Nat.mod_lt _ (by decide)) hzl2 (by have := hkp.size; simp; omega) ?_; intro a2 c2 w2 hown2 hb2)
      go_roundw
      case measure => simp [intOf]; omega
      case rel => exact ⟨k + 1, (q + nth xs k) / 4294967296, _, by omega, by omega, by go_num, by go_num, by simp [Hzl.out], hown2, Hst.out _ _ (by rw [H0.out]; omega), (hkp.alloc _).below.trans hb2⟩
    obtain ⟨b2, o2, rfl, hcy⟩ := (h2.kp hkp).some (i := k) (by omega)
    have hy1 := hcy k (by omega)
    have by' := h2.lt32.nth k
    clear hcy hzl
    have Hst := Lib.hid (fun z c' => plus_step (z := z) (c' := c') Hzl.out Hvz.out)
    have hcl := Lib.hid (and_lowI (x := (q : Int) + nth xs k + nth ys k) (s := q + nth xs k + nth ys k) (by omega) (by omega))
    go_wp2_with (at_builtin; refine wpList_append_u32 rfl _ _ rfl w.heap.size _ _ rfl (hown.alloc _) _ _ rfl (World.cell?_alloc_new _ _ _ _) ((q + nth xs k + nth ys k) % 4294967296) hcl.out (Nat.mod_lt _ (by decide)) hzl2 (by have := hkp.size; simp; omega) ?_; intro a2 c2 w2 hown2 hb2)
    go_roundw
    case measure => simp [intOf]; omega
    case rel => exact ⟨k + 1, (q + nth xs k + nth ys k) / 4294967296, _, by omega, by omega, by go_num, by go_num, by simp [Hzl.out], hown2, Hst.out _ _ (by omega), (hkp.alloc _).below.trans hb2⟩
  have hX0 : nth xs k = 0 := nth_ge (by omega)
  by_cases hly : k < ys.length
  · obtain ⟨b2, o2, rfl, hcy⟩ := (h2.kp hkp).some (i := k) (by omega)
    have hy1 := hcy k (by omega)
    have by' := h2.lt32.nth k
    have H0 := Lib.hid hX0
    clear hcy hzl hX0
    have Hst := Lib.hid (fun z c' => plus_step (z := z) (c' := c') Hzl.out Hvz.out)
    have hcl := Lib.hid (and_lowI (x := (q : Int) + nth ys k) (s := q + nth ys k) (by omega) (by omega))
    go_wp2_with (at_builtin; refine wpList_append_u32 rfl _ _ rfl w.heap.size _ _ rfl (hown.alloc _) _ _ rfl (World.cell?_alloc_new _ _ _ _) ((q + nth ys k) % 4294967296) hcl.out (Nat.mod_lt _ (by decide)) hzl2 (by have := hkp.size; simp; omega) ?_; intro a2 c2 w2 hown2 hb2)
    go_roundw
    case measure => simp [intOf]; omega
    case rel => exact ⟨k + 1, (q + nth ys k) / 4294967296, _, by omega, by omega, by go_num, by go_num, by simp [Hzl.out], hown2, Hst.out _ _ (by rw [H0.out]; omega), (hkp.alloc _).below.trans hb2⟩
  have e3 := Lib.hid (show val (zs ++ [q]) = val xs + val ys by
    have e := Hvz.out
    rw [List.take_of_length_le (by omega), List.take_of_length_le (by omega)] at e
    rw [val_snoc, hzl]; exact e)
  have hqq : (q : Int) % 4294967296 = (q : Int) := by omega
  clear hzl hX0
  have hkk := Lib.hid hkp
  go_wp2_with (at_builtin; refine wpList_append_u32 rfl _ _ rfl w.heap.size _ _ rfl (hown.alloc _) _ _ rfl (World.cell?_alloc_new _ _ _ _) q rfl (by omega) hzl2 (by have := hkp.size; simp; omega) ?_; intro a2 c2 w2 hown2 hb2)
  obtain ⟨l5, m5, r5, r6⟩ := hown2.rd
  have hT := r2trim_any a2 (zs ++ [q]) c2 w2 r6 m5 r5 (by rw [List.length_append, List.length_singleton]; have := Hzl.out; omega)
  rw [List.length_append, List.length_singleton] at hT
  have HT := Lib.hid hT
  have hkw := Lib.hid (show Kp w w2 from (hkk.out.alloc _).below.trans hb2)
  clear hown2 r6 hT hb2 hown hkp hqq l5 m5 r5
  refine HT.out.mono ?_
  rintro e w7 ⟨a6, c6, rfl, l6, m6, r6, k6⟩
  go_wp2_with fail
  go_ret
  rw [← e3.out]
  exact ⟨a6, c6, rfl, l6, m6, r6, hkw.out.trans k6⟩
theorem minus_step {zs xs ys : List Nat} {k c z c' : Nat} (hk : zs.length = k) (h : val zs + val (ys.take k) = val (xs.take k) + 4294967296 ^ k * c) (hz : z + (c + nth ys k) = nth xs k + 4294967296 * c') :
    val (zs ++ [z]) + val (ys.take (k + 1)) = val (xs.take (k + 1)) + 4294967296 ^ (k + 1) * c' := by
  rw [val_snoc, hk, val_take_step xs, val_take_step ys, Nat.pow_succ, Nat.mul_assoc]
  generalize 4294967296 ^ k = P at *
  have e : P * (z + (c + nth ys k)) = P * (nth xs k + 4294967296 * c') := by rw [hz]
  rw [Nat.mul_add, Nat.mul_add, Nat.mul_add] at e
  omega
set_option maxHeartbeats 2000000 in
set_option maxRecDepth 100000 in
theorem r2minus_any (a b : Option Addr) (xs ys : List Nat) (c d : Nat) (w : World) (h1 : Rd w a xs) (h2 : Rd w b ys) (hxl : xs.length ≤ 1000000) (hyl : ys.length ≤ xs.length) (hle : val ys ≤ val xs) :
    Calls Tryz.prog 215 #[.slice a xs.length c, .slice b ys.length d] w (NatOut w (val xs - val ys)) := by
  have Hle := Lib.hid hle
  clear hle
  go_enter Tryz.func215, Tryz.ntmps215
  go_wp2_with fail
  go_loopw [5, 6, 7] (fun v cy ix wr => ∃ (k q : Nat) (zs : List Nat), k ≤ xs.length ∧ q ≤ 1 ∧ cy = .int .u64 q ∧ ix = .int .i64 k ∧ zs.length = k ∧ Own wr w.heap.size v zs ∧
      val zs + val (ys.take k) = val (xs.take k) + 4294967296 ^ k * q ∧ Kp w wr) (fun _ _ ix _ => xs.length - (intOf ix).toNat)
  case atStart => exact ⟨0, 0, [], Nat.zero_le _, by decide, rfl, rfl, rfl, Own.nil _ _, by simp [val], .refl _⟩
  case round =>
  obtain ⟨k, q, zs, hk, hq, rfl, rfl, hzl, hown, hvz, hkp⟩ := hrel
  have Hvz := Lib.hid hvz
  have Hzl := Lib.hid hzl
  have hzl2 : zs.length + 1 ≤ 9000000 := by omega
  clear hvz
  by_cases hlx : k < xs.length
  · obtain ⟨b1, o1, rfl, hcx⟩ := (h1.kp hkp).some (i := k) (by omega)
    have hx1 := hcx k (by omega)
    have bx := h1.lt32.nth k
    clear hcx hzl
    have Hst := Lib.hid (fun z c' => minus_step (z := z) (c' := c') Hzl.out Hvz.out)
    by_cases hly : k < ys.length
    · obtain ⟨b2, o2, rfl, hcy⟩ := (h2.kp hkp).some (i := k) (by omega)
      have hy1 := hcy k (by omega)
      have by' := h2.lt32.nth k
      clear hcy
      have hcl := Lib.hid (and_lowI (x := (nth xs k : Int) + 4294967296 - ((q : Int) + nth ys k)) (s := nth xs k + 4294967296 - (q + nth ys k)) (by omega) (by omega))
      go_wp2_with (at_builtin; refine wpList_append_u32 rfl _ _ rfl w.heap.size _ _ rfl (hown.alloc _) _ _ rfl (World.cell?_alloc_new _ _ _ _) ((nth xs k + 4294967296 - (q + nth ys k)) % 4294967296) hcl.out (Nat.mod_lt _ (by decide)) hzl2 (by have := hkp.size; simp; omega) ?_; intro a2 c2 w2 hown2 hb2)
      go_roundw
      case measure => simp [intOf]; omega
      case rel => exact ⟨k + 1, 1 - (nth xs k + 4294967296 - (q + nth ys k)) / 4294967296, _, by omega, by omega, by congr 1; omega, by go_num, by simp [Hzl.out], hown2, Hst.out _ _ (by omega), (hkp.alloc _).below.trans hb2⟩
    have H0 := Lib.hid (nth_ge (xs := ys) (i := k) (by omega))
    have hcl := Lib.hid (and_lowI (x := (nth xs k : Int) + 4294967296 - (q : Int)) (s := nth xs k + 4294967296 - q) (by omega) (by omega))
    go_wp2_with (at_builtin; refine wpList_append_u32 rfl _ _ rfl w.heap.size _ _ rfl (hown.alloc _) _ _ rfl (World.cell?_alloc_new _ _ _ _) ((nth xs k + 4294967296 - q) % 4294967296) hcl.out (Nat.mod_lt _ (by decide)) hzl2 (by have := hkp.size; simp; omega) ?_; intro a2 c2 w2 hown2 hb2)
    go_roundw
    case measure => simp [intOf]; omega
    case rel => exact ⟨k + 1, 1 - (nth xs k + 4294967296 - q) / 4294967296, _, by omega, by omega, by congr 1; omega, by go_num, by simp [Hzl.out], hown2, Hst.out _ _ (by rw [H0.out]; omega), (hkp.alloc _).below.trans hb2⟩
  obtain ⟨a5, c5, e5, l5, m5, r5⟩ := hown.value
  subst e5
  have e3 := Lib.hid (show val zs = val xs - val ys by
    have e := Hvz.out
    have hl := Hle.out
    have hb := val_lt r5.lt32
    rw [hzl] at hb
    rw [List.take_of_length_le (by omega), List.take_of_length_le (by omega)] at e
    generalize 4294967296 ^ k = P at *
    have hq2 : q = 0 ∨ q = 1 := by omega
    rcases hq2 with rfl | rfl <;> omega)
  have hT := Lib.hid (r2trim_any a5 zs c5 wr r5 l5 m5 (by omega))
  have hkk := Lib.hid hkp
  clear hkp hown hzl
  go_wp2_with fail
  refine hT.out.mono ?_
  rintro e w7 ⟨a6, c6, rfl, l6, m6, r6, k6⟩
  go_wp2_with fail
  go_ret
  rw [← e3.out]
  exact ⟨a6, c6, rfl, l6, m6, r6, hkk.out.trans k6⟩
theorem limbs_top_ne {n : Nat} (h : n ≠ 0) : nth (limbs n) ((limbs n).length - 1) ≠ 0 := by
  have hl : 0 < (limbs n).length := by
    rw [List.length_pos_iff, Ne, limbs_eq_nil]; exact h
  have ht := limbs_top n
  unfold Top at ht
  rw [List.getLast?_eq_getElem?, List.getElem?_eq_getElem (by omega)] at ht
  rw [nth_eq (by omega)]
  exact fun e => ht (congrArg some e)
theorem bits_top {n : Nat} (h : n ≠ 0) : bits n = 32 * ((limbs n).length - 1) + bits (nth (limbs n) ((limbs n).length - 1)) ∧ nth (limbs n) ((limbs n).length - 1) ≠ 0 := by
  have hl : 0 < (limbs n).length := by
    rw [List.length_pos_iff, Ne, limbs_eq_nil]; exact h
  have ht : nth (limbs n) ((limbs n).length - 1) ≠ 0 := limbs_top_ne h
  have h32 := limbs_lt32 n
  have hv := val_limbs n
  generalize limbs n = xs at *
  have e : xs = xs.take (xs.length - 1) ++ [nth xs (xs.length - 1)] := by
    rw [nth_eq (by omega), ← List.take_succ_eq_append_getElem (by omega), List.take_of_length_le (by omega)]
  have hb := bits_val_snoc (h32.take (xs.length - 1)) ht
  rw [← e, hv, List.length_take, Nat.min_eq_left (by omega)] at hb
  exact ⟨hb, ht⟩
set_option maxHeartbeats 1000000 in
theorem r2bits_any (a : Option Addr) (n : Nat) (c : Nat) (w : World) (h : Rd w a (limbs n)) (hl : (limbs n).length ≤ 1100000) :
    Calls Tryz.prog 116 #[.slice a (limbs n).length c] w fun e w' => e = .returned (.int .i64 (bits n)) ∧ w = w' := by
  by_cases h0 : n = 0
  · have hz := len_is0 h0
    have hb := Lib.hid (show bits n = 0 by rw [h0, bits_zero])
    clear h0
    go_enter Tryz.func116, Tryz.ntmps116
    go_wp2_with fail
    go_ret
    rw [hb.out]
    exact ⟨rfl, rfl⟩
  have hz := len_ne h0
  obtain ⟨hb, ht⟩ := bits_top h0
  have hpos : 0 < (limbs n).length := by
    rw [List.length_pos_iff, Ne, limbs_eq_nil]; exact h0
  have hnt := (limbs_lt32 n).nth ((limbs n).length - 1)
  have hbt : bits (nth (limbs n) ((limbs n).length - 1)) ≤ 32 := bits_le.2 hnt
  obtain ⟨b, o, rfl, hcell⟩ := h.some hpos
  have hx := hcell ((limbs n).length - 1) (by omega)
  have Hb := Lib.hid hb
  clear hcell h hb h0
  generalize (limbs n).length = L at *
  generalize nth (limbs n) (L - 1) = t at *
  have hi1 : (0 : Int) ≤ ((L - 1 : Nat) : Int) := by omega
  have hi2 : ((L - 1 : Nat) : Int) < (L : Int) := by omega
  have hL1 : (L : Int) - 1 = ((L - 1 : Nat) : Int) := by omega
  go_enter Tryz.func116, Tryz.ntmps116
  go_wp2_with fail
  go_loop [3, 4] (fun v x => ∃ (y j : Nat), x = .int .u32 y ∧ v = .int .i64 ((32 * (L - 1) + j : Nat) : Int) ∧ j + bits y = bits t ∧ y < 4294967296) (fun _ x => (intOf x).toNat)
  case atStart => exact ⟨t, 0, rfl, by congr 1 <;> omega, by omega, hnt⟩
  case round =>
  obtain ⟨y, j, rfl, rfl, hj, hy⟩ := hrel
  by_cases hy0 : y = 0
  · subst hy0
    rw [bits_zero] at hj
    have HB := Lib.hid (show bits n = 32 * (L - 1) + j by rw [Hb.out]; omega)
    go_wp2_with fail
    go_ret
    rw [HB.out]
    exact ⟨rfl, rfl⟩
  have h2 := bits_half hy0
  have h3 : 0 < y := by omega
  go_wp2_with fail
  go_round
  case measure => simp [intOf]; omega
  case rel => exact ⟨y / 2, j + 1, by go_num, by congr 1 <;> omega, by omega, by omega⟩
set_option maxHeartbeats 1000000 in
theorem r2Neg_ok (x : RD) (w : World) (h : x.ok w) :
    Calls Tryz.prog 181 #[.agg #[.bool x.neg, .slice x.a x.xs.length x.c, .int .i64 x.e]] w (NumOut w x.dy.opp) := by
  have hxd := rdok_dy h
  have hz := rdok_zero h
  have hlim := rdok_limbs h
  have Ho := Lib.hid (show x.dy.opp = (RD.mk (!x.neg && decide (0 < x.xs.length)) x.a x.xs x.c x.e).dy by
    unfold Dy.opp
    by_cases h0 : x.dy.m = 0
    · rw [if_pos h0]
      have e := x.dy.eq_zero hxd h0
      have hl := hz.2 h0
      have hs : x.xs = [] := List.eq_nil_of_length_eq_zero hl
      have he : x.e = 0 := congrArg Dy.e e
      unfold RD.dy
      simp only [hs, he, List.length_nil, Nat.lt_irrefl, decide_false, Bool.and_false]
      rfl
    · rw [if_neg h0]
      have hl : 0 < x.xs.length := Nat.pos_of_ne_zero (fun e => h0 (hz.1 e))
      unfold RD.dy
      simp only [hl, decide_true, Bool.and_true])
  have Hv := Lib.hid (show (x.dy.opp.ok → (RD.mk (!x.neg && decide (0 < x.xs.length)) x.a x.xs x.c x.e).vl = true) from fun hok => by
    have := ok_vld hok
    rw [Ho.out] at this
    rw [show limbs (RD.mk (!x.neg && decide (0 < x.xs.length)) x.a x.xs x.c x.e).dy.m = x.xs from hlim] at this
    exact this)
  have hrd := h.1
  clear hz hlim hxd
  obtain ⟨B, hB⟩ : ∃ B : Bool, B = (!x.neg && decide (0 < x.xs.length)) := ⟨_, rfl⟩
  rw [← hB] at Ho Hv
  have goal : ∀ W : World, Kp w W → x.rd W → NumOut w x.dy.opp (.returned (.agg #[.bool B, .slice x.a x.xs.length x.c, .int .i64 x.e])) W := fun W k r => ⟨RD.mk B x.a x.xs x.c x.e, rfl, ⟨r.1, r.2⟩, Ho.out.symm, Hv.out, k⟩
  have Goal := Lib.hid goal
  clear goal Ho Hv
  cases hn : x.neg with
  | false =>
    rw [hn] at hB
    simp only [Bool.not_false, Bool.true_and] at hB
    subst hB
    go_enter Tryz.func181, Tryz.ntmps181
    go_wp2_with fail
    generalize hW : ((w.alloc _).alloc _) = W at *
    have hk : Kp w W := hW ▸ ((Kp.refl w).alloc _).alloc _
    obtain ⟨q0, q1, q2, f0, f1, f2⟩ : Box3 W (w.heap.size + 1) (.bool (decide (0 < x.xs.length))) (.slice x.a x.xs.length x.c) (.int .i64 x.e) := hW ▸ Box3.new2 _ _ _ _ _ _
    clear hW
    refine bodyPost_ret (v := .agg #[.bool (decide (0 < x.xs.length)), .slice x.a x.xs.length x.c, .int .i64 x.e]) (by simp [results, Tryz.results181, go_sem, q0, q1, q2]) rfl ?_
    exact Goal.out _ hk (hrd.kp hk)
  | true =>
  rw [hn] at hB
  simp only [Bool.not_true, Bool.false_and] at hB
  subst hB
  go_enter Tryz.func181, Tryz.ntmps181
  go_wp2_with fail
  generalize hW : ((w.alloc _).alloc _) = W at *
  have hk : Kp w W := hW ▸ ((Kp.refl w).alloc _).alloc _
  obtain ⟨q0, q1, q2, f0, f1, f2⟩ : Box3 W (w.heap.size + 1) (.bool false) (.slice x.a x.xs.length x.c) (.int .i64 x.e) := hW ▸ Box3.new2 _ _ _ _ _ _
  clear hW
  refine bodyPost_ret (v := .agg #[.bool false, .slice x.a x.xs.length x.c, .int .i64 x.e]) (by simp [results, Tryz.results181, go_sem, q0, q1, q2]) rfl ?_
  exact Goal.out _ hk (hrd.kp hk)
end Go.Proofs.YtbhmhfnfceakoaaGreatDoor
