/-
  Walks: the first reference's Trim, at, Bits.
  Walks: the first reference's Shr, Shl.
-/
import Derived.Test.YtkkiinbgjjjcoaaGreatDoorMR2F
section
namespace Go.Proofs.YtkkiinbgjjjcoaaGreatDoor
open Go.RowKit

set_option maxHeartbeats 1000000 in
theorem r1trim_any (a : Option Addr) (xs : List Nat) (c : Nat) (w : World) (h : Rd w a xs) (hc : xs.length ≤ c) (hm : c ≤ maxLen) (hl : xs.length ≤ 1100000) :
    Calls Tryz.prog 69 #[.slice a xs.length c] w (NatOut w (val xs)) := by
  have hm' := hm
  unfold maxLen at hm
  have hll := limbs_len_le h.lt32
  go_enter Tryz.func69, Tryz.ntmps69
  go_wp2
  go_loop [3] (fun x => ∃ n : Nat, n ≤ xs.length ∧ x = .int .i64 n ∧ ∀ i, n ≤ i → i < xs.length → nth xs i = 0) (fun x => (intOf x).toNat)
  case atStart => exact ⟨xs.length, Nat.le_refl _, rfl, fun i h1 h2 => by omega⟩
  case round =>
    obtain ⟨n, hn, rfl, hz⟩ := hrel
    have Hz := Lib.hid hz; clear hz
    by_cases h0 : n = 0
    · have htop := trim_top h.lt32 hn Hz.out (by omega)
      have hlen : (limbs (val xs)).length = n := by rw [← htop, List.length_take, Nat.min_eq_left hn]
      have hr := h.limbs.kp ((Kp.refl w).alloc (.cells #[] 35))
      have Hlen := Lib.hid hlen
      clear htop hlen
      subst h0
      go_wp2_with (at_builtin; refine wpList_append_u32s rfl _ _ rfl w.heap.size _ [] rfl (Own.empty w _ (Nat.le_refl _)) a (limbs (val xs)) c (by rw [Hlen.out]; rfl) hr (by simp; omega) (by simp) ?_; intro a2 c2 w2 hown2 hb2)
      go_ret
      obtain ⟨h5, h6, h7, h8⟩ := hown2.rd
      rw [List.nil_append] at h6 h8
      exact ⟨a2, c2, by simp, h6, h7, h8, ((Kp.refl w).alloc _).below.trans hb2⟩
    · obtain ⟨b, o, rfl, hcell⟩ := h.some (i := n - 1) (by omega)
      have hk := hcell (n - 1) (by omega)
      clear hcell
      by_cases hx : nth xs (n - 1) = 0
      · have hx2 : ((nth xs (n - 1) : Int) == 0) = true := by simp [hx]
        have Hx := Lib.hid hx; clear hx
        go_wp2
        go_round
        case rel =>
          refine ⟨n - 1, by omega, by congr 1; omega, fun i h1 h2 => ?_⟩
          by_cases hi : i = n - 1
          · rw [hi]; exact Hx.out
          · exact Hz.out i (by omega) h2
        case measure => simp [intOf]; omega
      · have hx2 : ((nth xs (n - 1) : Int) == 0) = false := by simp; omega
        have htop := trim_top h.lt32 hn Hz.out (fun _ => hx)
        have hlen : (limbs (val xs)).length = n := by rw [← htop, List.length_take, Nat.min_eq_left hn]
        have hr := h.limbs.kp ((Kp.refl w).alloc (.cells #[] 35))
        have Hlen := Lib.hid hlen
        clear htop hlen
        go_wp2_with (at_builtin; refine wpList_append_u32s rfl _ _ rfl w.heap.size _ [] rfl (Own.empty w _ (Nat.le_refl _)) (some ⟨b, o, none⟩) (limbs (val xs)) c (by rw [Hlen.out]; rfl) hr (by simp; omega) (by simp) ?_; intro a2 c2 w2 hown2 hb2)
        go_ret
        obtain ⟨h5, h6, h7, h8⟩ := hown2.rd
        rw [List.nil_append] at h6 h8
        exact ⟨a2, c2, by simp, h6, h7, h8, ((Kp.refl w).alloc _).below.trans hb2⟩
theorem r1at_any (a : Option Addr) (xs : List Nat) (c i : Nat) (w : World) (h : Rd w a xs) :
    Calls Tryz.prog 99 #[.slice a xs.length c, .int .i64 (i : Nat)] w fun e w' => e = .returned (.int .u64 (nth xs i : Nat)) ∧ w = w' := by
  by_cases hi : i < xs.length
  · obtain ⟨b, o, rfl, hc⟩ := h.some hi
    have hx := hc i hi
    have hb := h.lt32.nth i
    have hi0 : (0 : Int) ≤ (i : Int) := by omega
    have hi1 : (i : Int) < (xs.length : Int) := by omega
    clear hc
    go_enter Tryz.func99, Tryz.ntmps99
    go_wp2_with fail
    go_ret
    exact ⟨rfl, rfl⟩
  · have H0 := Lib.hid (nth_ge (xs := xs) (i := i) (by omega))
    have hi1 : ¬ (i : Int) < (xs.length : Int) := by omega
    clear hi
    go_enter Tryz.func99, Tryz.ntmps99
    go_wp2_with fail
    go_ret
    exact ⟨by rw [H0.out]; rfl, rfl⟩
theorem bits_at {xs : List Nat} {n : Nat} (h : Lt32 xs) (hn : n < xs.length) (hz : ∀ i, n + 1 ≤ i → i < xs.length → nth xs i = 0) (h0 : nth xs n ≠ 0) : bits (val xs) = 32 * n + bits (nth xs n) := by
  have ht := trim_top h (show n + 1 ≤ xs.length from hn) hz (fun _ => h0)
  have hlen : (limbs (val xs)).length = n + 1 := by rw [← ht, List.length_take, Nat.min_eq_left hn]
  have hv : val xs ≠ 0 := fun k => by rw [k, limbs_zero] at hlen; cases hlen
  obtain ⟨hb, _⟩ := bits_top hv
  rw [hlen, Nat.add_sub_cancel, ← ht] at hb
  rw [hb]
  congr 2
  rw [nth_eq (by rw [List.length_take]; omega), nth_eq hn, List.getElem_take]
theorem val_zero_of {xs : List Nat} (h : Lt32 xs) (hz : ∀ i, 0 ≤ i → i < xs.length → nth xs i = 0) : val xs = 0 := by
  have ht := trim_top h (Nat.zero_le xs.length) hz (fun k => absurd k (by omega))
  rw [List.take_zero] at ht
  have := val_limbs (val xs)
  rw [← ht] at this
  exact this.symm
set_option maxHeartbeats 2000000 in
theorem r1bits_any (a : Option Addr) (xs : List Nat) (c : Nat) (w : World) (h : Rd w a xs) (hl : xs.length ≤ 1100000) :
    Calls Tryz.prog 70 #[.slice a xs.length c] w fun e w' => e = .returned (.int .i64 (bits (val xs))) ∧ w = w' := by
  go_enter Tryz.func70, Tryz.ntmps70
  go_wp2_with fail
  go_loop [3] (fun x => ∃ n : Nat, n ≤ xs.length ∧ x = .int .i64 ((n : Int) - 1) ∧ ∀ i, n ≤ i → i < xs.length → nth xs i = 0) (fun x => (intOf x + 1).toNat)
  case atStart => exact ⟨xs.length, Nat.le_refl _, rfl, fun i h1 h2 => by omega⟩
  case round =>
    obtain ⟨n, hn, rfl, hz⟩ := hrel
    have Hz := Lib.hid hz; clear hz
    rcases n with _ | k
    · rw [show (((0 : Nat) : Int) - 1) = -1 from rfl]
      have HB := Lib.hid (show bits (val xs) = 0 by rw [val_zero_of h.lt32 Hz.out, bits_zero])
      go_wp2_with fail
      go_ret
      rw [HB.out]
      exact ⟨rfl, rfl⟩
    · rw [show (((k + 1 : Nat) : Int) - 1) = (k : Int) from by omega]
      obtain ⟨b, o, rfl, hcell⟩ := h.some (i := k) (by omega)
      have hx := hcell k (by omega)
      have hnt := h.lt32.nth k
      clear hcell
      by_cases h0 : nth xs k = 0
      · have hx2 : ((nth xs k : Int) != 0) = false := by simp [h0]
        have H0 := Lib.hid h0
        clear h0
        go_wp2_with fail
        go_round
        case rel =>
          refine ⟨k, by omega, rfl, fun i h1 h2 => ?_⟩
          by_cases hi : i = k
          · rw [hi]; exact H0.out
          · exact Hz.out i (by omega) h2
        case measure => simp [intOf]
      · have hx2 : ((nth xs k : Int) != 0) = true := by simp [h0]
        have HB := Lib.hid (bits_at h.lt32 (show k < xs.length by omega) Hz.out h0)
        have hbt : bits (nth xs k) ≤ 32 := bits_le.2 hnt
        clear h0
        go_wp2_with fail
        go_loop [4, 5] (fun v x => ∃ (y j : Nat), x = .int .u32 y ∧ v = .int .i64 ((32 * k + j : Nat) : Int) ∧ j + bits y = bits (nth xs k) ∧ y < 4294967296) (fun _ x => (intOf x).toNat)
        case atStart => exact ⟨nth xs k, 0, rfl, by congr 1 <;> omega, by omega, hnt⟩
        case round =>
          obtain ⟨y, j, rfl, rfl, hj, hy⟩ := hrel
          by_cases hy0 : y = 0
          · subst hy0
            rw [bits_zero] at hj
            have HB2 := Lib.hid (show bits (val xs) = 32 * k + j by rw [HB.out]; omega)
            go_wp2_with fail
            go_ret
            rw [HB2.out]
            exact ⟨rfl, rfl⟩
          · have h2 := bits_half hy0
            have h3 : 0 < y := by omega
            go_wp2_with fail
            go_round
            case rel => exact ⟨y / 2, j + 1, by go_num, by congr 1 <;> omega, by omega, by omega⟩
            case measure => simp [intOf]; omega
end Go.Proofs.YtkkiinbgjjjcoaaGreatDoor
end

section
namespace Go.Proofs.YtkkiinbgjjjcoaaGreatDoor
open Go.RowKit

theorem r1at_int (a : Option Addr) (xs : List Nat) (c : Nat) (j : Int) (i : Nat) (w : World) (h : Rd w a xs) (hj : j = i) :
    Calls Tryz.prog 99 #[.slice a xs.length c, .int .i64 j] w fun e w' => e = .returned (.int .u64 (nth xs i : Nat)) ∧ w = w' := by
  subst hj; exact r1at_any a xs c i w h
theorem nth_drp (xs : List Nat) (q k : Nat) : nth (xs.drop q) k = nth xs (q + k) := by
  unfold nth; rw [List.getD_eq_getElem?_getD, List.getD_eq_getElem?_getD, List.getElem?_drop]
theorem val_drop (xs : List Nat) (q : Nat) (h : Lt32 xs) : val (xs.drop q) = val xs / 4294967296 ^ q := by
  by_cases hq : q ≤ xs.length
  · have e := val_take_drop xs q hq
    have b := val_lt (h.take q)
    rw [List.length_take, Nat.min_eq_left hq] at b
    rw [e, Nat.add_mul_div_left _ _ (Nat.pow_pos (by decide)), Nat.div_eq_of_lt b, Nat.zero_add]
  · rw [List.drop_of_length_le (by omega), Nat.div_eq_of_lt]
    · rfl
    · exact Nat.lt_of_lt_of_le (val_lt h) (Nat.pow_le_pow_right (by decide) (by omega))
set_option maxHeartbeats 2000000 in
set_option maxRecDepth 100000 in
theorem r1shr_any (a : Option Addr) (xs : List Nat) (c n : Nat) (w : World) (h1 : Rd w a xs) (hxl : xs.length ≤ 1000000) (hn : n ≤ 40000000) :
    Calls Tryz.prog 71 #[.slice a xs.length c, .int .i64 (n : Nat)] w (NatOut w (val xs / 2 ^ n)) := by
  have hfin : val xs / 2 ^ n = val (xs.drop (n / 32)) / 2 ^ (n % 32) := by rw [val_drop _ _ h1.lt32, Nat.div_div_eq_div_mul, pow_split]
  rw [hfin]
  clear hfin
  have hvl : (xs.drop (n / 32)).length = xs.length - n / 32 := List.length_drop
  have hnth := nth_drp xs (n / 32)
  have hv32 : Lt32 (xs.drop (n / 32)) := h1.lt32.drop _
  generalize xs.drop (n / 32) = vs at *
  have hr : n % 32 < 32 := Nat.mod_lt _ (by decide)
  have Hvl := Lib.hid hvl
  have Hnth := Lib.hid hnth
  have H32 := Lib.hid hv32
  clear hvl hnth hv32
  go_enter Tryz.func71, Tryz.ntmps71
  go_wp2_with fail
  go_loopw [5, 6] (fun v ix wr => ∃ (k : Nat) (zs : List Nat), k ≤ xs.length - n / 32 ∧ ix = .int .i64 ((n / 32 + k : Nat) : Int) ∧ zs.length = k ∧ Own wr w.heap.size v zs ∧
    val zs * 2 ^ (n % 32) + nth vs 0 % 2 ^ (n % 32) = val (vs.take k) + 4294967296 ^ k * (nth vs k % 2 ^ (n % 32)) ∧ Kp w wr) (fun _ ix _ => xs.length - (intOf ix).toNat)
  case atStart => exact ⟨0, [], Nat.zero_le _, by go_num, rfl, Own.nil _ _, by simp [val], .refl _⟩
  case round =>
    obtain ⟨k, zs, hk, rfl, hzl, hown, hvz, hkp⟩ := hrel
    have Hvz := Lib.hid hvz
    have Hzl := Lib.hid hzl
    have hzl2 : zs.length + 1 ≤ 9000000 := by omega
    clear hvz
    by_cases hlt : n / 32 + k < xs.length
    · have bx := h1.lt32.nth (n / 32 + k)
      have bx2 := h1.lt32.nth (n / 32 + k + 1)
      have Hst := Lib.hid (fun z => right_step (z := z) Hzl.out Hvz.out)
      have Hl := Lib.hid (shr_limb (y := nth xs (n / 32 + k + 1)) bx hr)
      have hcl := Lib.hid (show Go.bits BinOp.and IntKind.u64 (((nth xs (n / 32 + k) : Int) + (nth xs (n / 32 + k + 1) : Int) * 4294967296) / 2 ^ (n % 32)) 4294967295 % 4294967296 = (((nth xs (n / 32 + k) + 4294967296 * nth xs (n / 32 + k + 1)) / 2 ^ (n % 32) % 4294967296 : Nat) : Int) by
        have := cell_low (r := n % 32) bx bx2
        rwa [Int.mul_comm 4294967296] at this)
      clear hzl
      go_wp2_with fail
      refine (r1at_int a xs c _ (n / 32 + k) _ (h1.kp hkp) (by omega)).mono ?_
      rintro e w1 ⟨rfl, rfl⟩
      go_wp2_with fail
      refine (r1at_int a xs c _ (n / 32 + k + 1) _ (h1.kp hkp) (by omega)).mono ?_
      rintro e w1 ⟨rfl, rfl⟩
      go_wp2_with (at_builtin; refine wpList_append_u32 rfl _ _ rfl w.heap.size _ _ rfl (hown.alloc _) _ _ rfl (World.cell?_alloc_new _ _ _ _) ((nth xs (n / 32 + k) + 4294967296 * nth xs (n / 32 + k + 1)) / 2 ^ (n % 32) % 4294967296) hcl.out (Nat.mod_lt _ (by decide)) hzl2 (by have := hkp.size; simp; omega) ?_; intro a2 c2 w2 hown2 hb2)
      go_roundw
      case rel => exact ⟨k + 1, _, by omega, by go_num, by simp [Hzl.out], hown2, Hst.out _ (by rw [Hnth.out, Hnth.out]; exact Hl.out), (hkp.alloc _).below.trans hb2⟩
      case measure => simp [intOf]; omega
    · have e2 := Hvz.out
      have h0 : nth vs k = 0 := nth_ge (by rw [Hvl.out]; omega)
      rw [h0, Nat.zero_mod, Nat.mul_zero, Nat.add_zero, List.take_of_length_le (by rw [Hvl.out]; omega)] at e2
      have hlt3 := Nat.mod_lt (nth vs 0) (two_pow_pos (n % 32))
      have e3 : val zs = val vs / 2 ^ (n % 32) := by
        rw [← e2, Nat.mul_comm, Nat.mul_add_div (two_pow_pos _), Nat.div_eq_of_lt hlt3, Nat.add_zero]
      obtain ⟨a5, c5, e5, l5, m5, r5⟩ := hown.value
      subst e5
      have E3 := Lib.hid e3
      have hT := Lib.hid (r1trim_any a5 zs c5 wr r5 l5 m5 (by have := Hzl.out; omega))
      have hkk := Lib.hid hkp
      clear e2 e3 h0 hlt3 hkp hown hzl
      go_wp2_with fail
      refine hT.out.mono ?_
      rintro e w7 ⟨a6, c6, rfl, l6, m6, r6, k6⟩
      go_wp2_with fail
      go_ret
      rw [← E3.out]
      exact ⟨a6, c6, rfl, l6, m6, r6, hkk.out.trans k6⟩
theorem lshl_step {zs : List Nat} {j x r : Nat} (hj : j + 1 < zs.length) (h0 : nth zs (j + 1) = 0) :
    val ((zs.set j (nth zs j + x * 2 ^ r % 4294967296)).set (j + 1) (x * 2 ^ r / 4294967296)) = val zs + 4294967296 ^ j * (x * 2 ^ r) := by
  have h1 := val_set (xs := zs) (i := j) (x := nth zs j + x * 2 ^ r % 4294967296) (by omega)
  have h2 := val_set (xs := zs.set j (nth zs j + x * 2 ^ r % 4294967296)) (i := j + 1) (x := x * 2 ^ r / 4294967296) (by simpa using hj)
  rw [nth_set_ne (by omega), h0, Nat.mul_zero, Nat.add_zero] at h2
  rw [Nat.pow_succ, Nat.mul_assoc] at h2
  rw [h2]
  generalize 4294967296 ^ j = P at *
  generalize x * 2 ^ r = s at *
  have e : P * (s % 4294967296) + P * (4294967296 * (s / 4294967296)) = P * s := by
    rw [← Nat.mul_add]; congr 1; omega
  rw [Nat.mul_add] at h1
  omega
theorem lshl_or {x r o : Nat} (hx : x < 4294967296) (hr : r < 32) (ho : o < 2 ^ r) :
    IntKind.u64.wrap ((x : Int) * 2 ^ r) = ((x * 2 ^ r : Nat) : Int) ∧ Go.bits BinOp.and IntKind.u64 ((x * 2 ^ r : Nat) : Int) 4294967295 % 4294967296 = ((x * 2 ^ r % 4294967296 : Nat) : Int) ∧
    Go.bits BinOp.or IntKind.u32 (o : Int) ((x * 2 ^ r % 4294967296 : Nat) : Int) = ((o + x * 2 ^ r % 4294967296 : Nat) : Int) ∧ o + x * 2 ^ r % 4294967296 < 4294967296 ∧ x * 2 ^ r / 4294967296 < 2 ^ r ∧ x * 2 ^ r < 9223372036854775808 := by
  have h1 : 2 ^ r ≤ 2 ^ 31 := Nat.pow_le_pow_right (by decide) (by omega)
  have h2 : x * 2 ^ r ≤ 4294967295 * 2 ^ r := Nat.mul_le_mul_right _ (by omega)
  obtain ⟨C, hC⟩ : ∃ C, 4294967296 = 2 ^ r * C := ⟨2 ^ (32 - r), by rw [← Nat.pow_add, show r + (32 - r) = 32 from by omega]⟩
  have hm : x * 2 ^ r % 4294967296 % 2 ^ r = 0 := by
    conv => lhs; lhs; rw [hC]
    rw [Nat.mod_mul_right_mod, Nat.mul_mod_left]
  have hlt : x * 2 ^ r % 4294967296 < 4294967296 := Nat.mod_lt _ (by decide)
  have hor : o ||| x * 2 ^ r % 4294967296 = o + x * 2 ^ r % 4294967296 := by rw [Nat.or_comm, nat_join r _ _ hm ho, Nat.add_comm]
  refine ⟨?_, and_lowI rfl (by omega), ?_, ?_, ?_, by omega⟩
  · rw [show (x : Int) * 2 ^ r = ((x * 2 ^ r : Nat) : Int) from by push_cast; rfl, IntKind.wrap_u64]
    omega
  · rw [u32_or_nat _ _ (by omega) hlt, hor]
  · rw [← hor]; exact lt_or32 (by omega) hlt
  · exact (Nat.div_lt_iff_lt_mul (by decide)).2 (by rw [Nat.mul_comm (2 ^ r)]; exact Nat.mul_lt_mul_of_pos_right hx (two_pow_pos r))
set_option maxHeartbeats 2000000 in
set_option maxRecDepth 100000 in
theorem r1shl_any (a : Option Addr) (xs : List Nat) (c n : Nat) (w : World) (h1 : Rd w a xs) (hxc : xs.length ≤ c) (hc : c ≤ maxLen) (hxl : xs.length ≤ 100000) (hn : n ≤ 20000000) :
    Calls Tryz.prog 73 #[.slice a xs.length c, .int .i64 (n : Nat)] w (NatOut w (val xs * 2 ^ n)) := by
  have hll := limbs_len_le h1.lt32
  have HT := Lib.hid (r1trim_any a xs c w h1 hxc hc (by omega))
  have Hfin := Lib.hid (show val xs * 2 ^ n = 4294967296 ^ (n / 32) * (val (limbs (val xs)) * 2 ^ (n % 32)) by rw [val_limbs, ← pow_split n, Nat.mul_left_comm])
  clear h1
  go_enter Tryz.func73, Tryz.ntmps73
  go_wp2_with fail
  refine HT.out.mono ?_
  rintro e w1 ⟨a1, c1, rfl, l1, m1, r1, k1⟩
  clear HT
  have h32 := limbs_lt32 (val xs)
  generalize limbs (val xs) = ls at *
  have hr : n % 32 < 32 := Nat.mod_lt _ (by decide)
  have hmk := make_u32 ((n : Int) / 32 + ls.length + 1) (n / 32 + ls.length + 1) (by omega) (by omega)
  go_wp2_with fail
  clear hmk
  go_loopw [6] (fun ix wr => ∃ (i : Nat) (zs : List Nat), i ≤ ls.length ∧ ix = .int .i64 i ∧ zs.length = n / 32 + ls.length + 1 ∧ Blk wr w1.heap.size zs ∧ Lt32 zs ∧
    val zs = 4294967296 ^ (n / 32) * (val (ls.take i) * 2 ^ (n % 32)) ∧ nth zs (i + n / 32) < 2 ^ (n % 32) ∧ (∀ j, i + n / 32 < j → nth zs j = 0) ∧ Kp w1 wr) (fun ix _ => ls.length - (intOf ix).toNat)
  case atStart => exact ⟨0, _, Nat.zero_le _, rfl, by simp, Blk.made _ _, .replicate _, by simp [val, val_replicate], by rw [nth_replicate]; exact two_pow_pos _, fun j _ => nth_replicate _ _, (Kp.refl _).alloc _⟩
  case round =>
    obtain ⟨i, zs, hi, rfl, hzl, hb, hz32, hvz, hzt, hz0, hkp⟩ := hrel
    have Hvz := Lib.hid hvz
    have Hzl := Lib.hid hzl
    have Hz0 := Lib.hid hz0
    have Hzt := Lib.hid hzt
    clear hvz hz0 hzt
    by_cases hlt : i < ls.length
    · obtain ⟨b1, o1, rfl, hcx⟩ := (r1.kp hkp).some hlt
      have hx1 := hcx i hlt
      have bx := h32.nth i
      clear hcx
      obtain ⟨q1, q2, q3, q4, q5, q6⟩ := lshl_or bx hr Hzt.out
      have hs1 := hb.cell (i := i + n / 32) (by omega)
      have hs2 := hb.frozen (i + n / 32)
      have hs3 := hb.cell (i := i + n / 32 + 1) (by omega)
      have hs4 := hb.frozen (i + n / 32 + 1)
      have HQ := Lib.hid (And.intro q2 q3)
      have HC := Lib.hid (show ((nth ls i : Nat) : Int) * 2 ^ (n % 32) = ((nth ls i * 2 ^ (n % 32) : Nat) : Int) by push_cast; rfl)
      have HF1 := Lib.hid q4
      have HF2 := Lib.hid q5
      have HST := Lib.hid (lshl_step (zs := zs) (j := i + n / 32) (x := nth ls i) (r := n % 32) (by omega) (Hz0.out _ (by omega)))
      have hne1 : (⟨w1.heap.size, i + n / 32, none⟩ : Addr) ≠ ⟨w1.heap.size, i + n / 32 + 1, none⟩ := fun e => by injection e with _ e2; omega
      clear q2 q3 q4 q5
      go_wp2_with fail
      go_roundw
      case rel =>
        refine ⟨i + 1, (zs.set (i + n / 32) (nth zs (i + n / 32) + nth ls i * 2 ^ (n % 32) % 4294967296)).set (i + n / 32 + 1) (nth ls i * 2 ^ (n % 32) / 4294967296), by omega, by go_num, by simp [Hzl.out], (hb.put ?_).put ?_, (hz32.set _ _ HF1.out).set _ _ (Nat.lt_of_lt_of_le HF2.out (Nat.le_trans (Nat.pow_le_pow_right (by decide) (by omega : n % 32 ≤ 31)) (by decide))), ?_, ?_, fun j hj => ?_, (hkp.set (Nat.le_refl _) _).set (Nat.le_refl _) _⟩
        · rw [HC.out, HQ.out.1, HQ.out.2]
        · rw [HC.out]
          have := HF2.out
          have h2 : 2 ^ (n % 32) ≤ 2 ^ 31 := Nat.pow_le_pow_right (by decide) (by omega)
          omega
        · rw [HST.out, Hvz.out, val_take_step ls, Nat.add_mul, Nat.mul_add, Nat.add_comm i, Nat.pow_add, Nat.mul_assoc, Nat.mul_assoc]
        · rw [show i + 1 + n / 32 = i + n / 32 + 1 by omega, nth_set_eq (by simp; omega)]; exact HF2.out
        · rw [nth_set_ne (by omega), nth_set_ne (by omega)]; exact Hz0.out j (by omega)
      case measure => simp [intOf]; omega
    · have e2 := Hvz.out
      rw [List.take_of_length_le (by omega)] at e2
      have E2 := Lib.hid e2
      have HT := Lib.hid (r1trim_any (some ⟨w1.heap.size, 0, none⟩) zs (n / 32 + ls.length + 1) wr (hb.rd hz32) (by omega) (by unfold maxLen; omega) (by omega))
      rw [hzl] at HT
      have hkk := Lib.hid (k1.trans hkp)
      clear e2 hb hkp
      go_wp2_with fail
      with_reducible refine HT.out.mono ?_
      rintro e w7 ⟨a6, c6, rfl, l6, m6, r6, k6⟩
      go_wp2_with fail
      go_ret
      rw [Hfin.out.trans E2.out.symm]
      exact ⟨a6, c6, rfl, l6, m6, r6, hkk.out.trans k6⟩
end Go.Proofs.YtkkiinbgjjjcoaaGreatDoor
end
