/-
  Walks: natural.shl, natural.shr.
  Walks: natural.shr.
  Walks: natural.Add, Sub, Mul, Shl, Shr.
-/
import Derived.Test.YtkohlmlmoapedaaDoorMIdx
import Derived.Test.YtkohlmlmoapedaaDoorMBits
import Derived.Test.YtkohlmlmoapedaaDoorMSub
section
namespace Go.Proofs.YtkohlmlmoapedaaDoor
open Go.RowKit

theorem shl_or {x r c : Nat} (hx : x < 4294967296) (hr : r < 32) (hc : c < 2 ^ r) :
    ∃ s : Nat, Go.bits BinOp.or IntKind.u64 (IntKind.u64.wrap ((x : Int) * 2 ^ r)) (c : Int) = (s : Int) ∧ s = x * 2 ^ r + c ∧ s / 4294967296 < 2 ^ r ∧ s < 9223372036854775808 := by
  have h1 : 2 ^ r ≤ 2 ^ 31 := Nat.pow_le_pow_right (by decide) (by omega)
  have h2 : x * 2 ^ r ≤ 4294967295 * 2 ^ r := Nat.mul_le_mul_right _ (by omega)
  have h3 : x * 2 ^ r + c < 4294967296 * 2 ^ r := by omega
  have e1 : IntKind.u64.wrap ((x : Int) * 2 ^ r) = ((x * 2 ^ r : Nat) : Int) := by
    rw [show (x : Int) * 2 ^ r = ((x * 2 ^ r : Nat) : Int) from by push_cast; rfl, IntKind.wrap_u64]
    omega
  refine ⟨x * 2 ^ r + c, ?_, rfl, ?_, by omega⟩
  · rw [e1, u64_or_nat _ _ (by omega) (by omega), nat_join r _ _ (Nat.mul_mod_left _ _) hc]
  · exact (Nat.div_lt_iff_lt_mul (by decide)).2 (by rw [Nat.mul_comm (2 ^ r)]; exact h3)
theorem shl_step {zs : List Nat} {q k cr s V x r : Nat} (hl : zs.length = q + k) (h : val zs + 4294967296 ^ (q + k) * cr = 4294967296 ^ q * (2 ^ r * V)) (hs : s = x * 2 ^ r + cr) :
    val (zs ++ [s % 4294967296]) + 4294967296 ^ (q + (k + 1)) * (s / 4294967296) = 4294967296 ^ q * (2 ^ r * (V + 4294967296 ^ k * x)) := by
  rw [val_snoc, hl, show q + (k + 1) = q + k + 1 from by omega, Nat.pow_succ, Nat.mul_assoc]
  have e : 4294967296 ^ (q + k) * (s % 4294967296) + 4294967296 ^ (q + k) * (4294967296 * (s / 4294967296)) = 4294967296 ^ (q + k) * s := by
    rw [← Nat.mul_add]; congr 1; omega
  have e2 : 4294967296 ^ (q + k) * s = 4294967296 ^ q * (2 ^ r * (4294967296 ^ k * x)) + 4294967296 ^ (q + k) * cr := by
    rw [hs, Nat.mul_add, Nat.pow_add]
    congr 1
    rw [Nat.mul_assoc]; congr 1
    rw [Nat.mul_comm x, ← Nat.mul_assoc, ← Nat.mul_assoc, Nat.mul_comm (2 ^ r)]
  rw [Nat.mul_add (2 ^ r), Nat.mul_add (4294967296 ^ q)]
  omega
theorem pow_split (n : Nat) : 4294967296 ^ (n / 32) * 2 ^ (n % 32) = 2 ^ n := by
  rw [pow32, ← Nat.pow_add]; congr 1; omega

/-- a new slice of some capacity that shows limbs of the number v, n of them -/
def MadeC (w : World) (v n : Nat) (e : Ending) (w' : World) : Prop :=
  ∃ a c zs, e = .returned (.slice a n c) ∧ zs.length = n ∧ n ≤ c ∧ c ≤ maxLen ∧ val zs = v ∧ Rd w' a zs ∧ Kp w w'
theorem MadeV.c {w : World} {v n : Nat} {e : Ending} {w' : World} (h : MadeV w v n e w') (hn : n ≤ maxLen) : MadeC w v n e w' := by
  obtain ⟨g, zs, h1, h2, h3, h4, h5⟩ := h
  exact ⟨_, n, zs, h1, h2, Nat.le_refl _, hn, h3, h4, h5⟩

set_option maxHeartbeats 1000000 in
theorem shl_any (a : Option Addr) (xs : List Nat) (c n : Nat) (w : World) (hx : Rd w a xs) (hxc : xs.length ≤ c) (hc : c ≤ maxLen) (hxl : xs.length ≤ 1100000) (hn : n ≤ 65536) :
    Calls Tryd.prog 96 #[.slice a xs.length c, .int .i64 n] w (MadeC w (val xs * 2 ^ n) (n / 32 + (limbs (val xs)).length + 1)) := by
  have H1 := Lib.hid (trim_any a xs c w hx hxc hc)
  have h1 := hx.limbs
  have hl1 := limbs_len_le hx.lt32
  have Hv1 := Lib.hid (val_limbs (val xs))
  go_enter Tryd.func96, Tryd.ntmps96
  go_wp2_with fail
  refine H1.out.mono ?_
  rintro e w2 ⟨rfl, rfl⟩
  clear H1 hx
  generalize limbs (val xs) = us at *
  have hmk := make_u32c ((n : Int) / 32) ((n : Int) / 32 + us.length + 1) (n / 32) (n / 32 + us.length + 1) (by omega) (by omega) (by omega) (by omega)
  go_wp2_with fail
  clear hmk
  have hr : n % 32 < 32 := Nat.mod_lt _ (by decide)
  go_loopw [5, 6, 23] (fun v cy ix wr => ∃ (k cr : Nat) (a' : Option Addr) (c' : Nat) (zs : List Nat), k ≤ us.length ∧ ix = .int .i64 k ∧ cy = .int .u64 cr ∧ v = .slice a' zs.length c' ∧ cr < 2 ^ (n % 32) ∧
      zs.length = n / 32 + k ∧ Own wr w.heap.size (.slice a' zs.length c') zs ∧ val zs + 4294967296 ^ (n / 32 + k) * cr = 4294967296 ^ (n / 32) * (2 ^ (n % 32) * val (us.take k)) ∧ Kp w wr) (fun _ _ ix _ => us.length - (intOf ix).toNat)
  case atStart =>
    refine ⟨0, 0, _, _, List.replicate (n / 32) 0, Nat.zero_le _, rfl, rfl, by rw [List.length_replicate], two_pow_pos _, by simp, ?_, by simp [val, val_replicate], (Kp.refl _).alloc _⟩
    rw [List.length_replicate]
    exact Own.made _ _ _ (by omega) (by omega) _ (Nat.le_refl _)
  case round =>
    obtain ⟨k, cr, a', c', zs, hk, rfl, rfl, rfl, hcr, hzl, hown, hvz, hkp⟩ := hrel
    have Hvz := Lib.hid hvz
    have Hzl := Lib.hid hzl
    have hzl1 : zs.length ≤ n / 32 + k := by omega
    have Hcr := Lib.hid hcr
    clear hvz hzl hcr
    by_cases hlt : k < us.length
    · obtain ⟨b1, o1, rfl, hcx⟩ := (h1.kp hkp).some hlt
      have hx1 := hcx k hlt
      have bx := h1.lt32.nth k
      obtain ⟨s, hor, hs, hs2, hs3⟩ := shl_or bx hr Hcr.out
      have Hst := Lib.hid (shl_step (zs := zs) (q := n / 32) (k := k) Hzl.out Hvz.out hs)
      have Hs2 := Lib.hid hs2
      clear hcx hs hs2
      go_wp2_with (at_builtin; refine wpList_append_u32 rfl _ _ rfl w.heap.size _ _ rfl (hown.alloc _) _ _ rfl (World.cell?_alloc_new _ _ _ _) (s % 4294967296) (by omega) (by omega) (by omega) (by have := hkp.size; simp; omega) ?_; intro a2 c2 w2 hown2 hb2)
      go_roundw
      case rel =>
        refine ⟨k + 1, s / 4294967296, a2, c2, zs ++ [s % 4294967296], by omega, by go_num, by congr 1, by simp, Hs2.out, by simp [Hzl.out]; omega, by simpa using hown2, ?_, ((hkp.alloc _).below.trans hb2)⟩
        rw [val_take_step]; exact Hst.out
      case measure => simp [intOf]; omega
    · have hke : k = us.length := by omega
      have Hke := Lib.hid hke
      have Hcr2 := Lib.hid (Nat.lt_of_lt_of_le Hcr.out (Nat.pow_le_pow_right (by decide) (show n % 32 ≤ 31 by omega)))
      have hcr3 : cr < 4294967296 := by have := Hcr2.out; omega
      clear hke
      go_wp2_with (at_builtin; refine wpList_append_u32 rfl _ _ rfl w.heap.size _ _ rfl (hown.alloc _) _ _ rfl (World.cell?_alloc_new _ _ _ _) cr (by omega) (by omega) (by omega) (by have := hkp.size; simp; omega) ?_; intro a2 c2 w2 hown2 hb2)
      go_ret
      obtain ⟨h5, h6, h7, h8⟩ := hown2.rd
      have e2 := Hvz.out
      rw [Hke.out, List.take_of_length_le (Nat.le_refl _), ← Nat.mul_assoc, pow_split, Hv1.out] at e2
      refine ⟨a2, c2, zs ++ [cr], ret_len (by rw [Hzl.out, Hke.out]), by simp [Hzl.out, Hke.out], by simpa [Hzl.out, Hke.out] using h6, h7, ?_, h8, (hkp.alloc _).below.trans hb2⟩
      rw [val_snoc, Hzl.out, Hke.out, e2, Nat.mul_comm]
end Go.Proofs.YtkohlmlmoapedaaDoor
end

section
namespace Go.Proofs.YtkohlmlmoapedaaDoor
open Go.RowKit

theorem shr_or {x y : Nat} (hx : x < 4294967296) (hy : y < 4294967296) :
    Go.bits BinOp.or IntKind.u64 (x : Int) ((y : Int) * 4294967296) = ((x + 4294967296 * y : Nat) : Int) := by
  rw [show (y : Int) * 4294967296 = ((y * 2 ^ 32 : Nat) : Int) from by rw [Int.natCast_mul]; rfl, u64_or_nat _ _ (by omega) (by omega), Nat.or_comm, nat_join 32 _ _ (Nat.mul_mod_left _ _) hx]
  congr 1; omega
theorem cast_shr (x y p : Nat) : ((x : Int) + 4294967296 * y) / 2 ^ p % 4294967296 = (((x + 4294967296 * y) / 2 ^ p % 4294967296 : Nat) : Int) := by
  rw [Int.natCast_emod, Int.natCast_ediv, Int.natCast_add, Int.natCast_mul, Int.natCast_pow]; rfl
theorem cast_shr0 (x p : Nat) : (x : Int) / 2 ^ p % 4294967296 = ((x / 2 ^ p % 4294967296 : Nat) : Int) := by
  rw [Int.natCast_emod, Int.natCast_ediv, Int.natCast_pow]; rfl
theorem shr_limb {x y r : Nat} (hx : x < 4294967296) (hr : r < 32) : (x + 4294967296 * y) / 2 ^ r % 4294967296 * 2 ^ r + x % 2 ^ r = x + 4294967296 * (y % 2 ^ r) := by
  have hp := two_pow_pos r
  obtain ⟨C, hC⟩ : ∃ C, 4294967296 = C * 2 ^ r := ⟨2 ^ (32 - r), by rw [← Nat.pow_add, show 32 - r + r = 32 from by omega]⟩
  have e1 : (x + 4294967296 * y) / 2 ^ r = x / 2 ^ r + C * y := by
    rw [hC, Nat.mul_right_comm, Nat.add_mul_div_right _ _ hp]
  have hxC : x / 2 ^ r < C := by rw [Nat.div_lt_iff_lt_mul hp]; omega
  have e2 : C * y = C * (y % 2 ^ r) + 4294967296 * (y / 2 ^ r) := by
    have := Nat.div_add_mod y (2 ^ r)
    rw [hC, Nat.mul_assoc, ← Nat.mul_add]; congr 1; omega
  have hlt : C * (y % 2 ^ r) + C ≤ 4294967296 := by
    have := Nat.mul_le_mul_left C (show y % 2 ^ r + 1 ≤ 2 ^ r from Nat.mod_lt y hp)
    rw [Nat.mul_add, Nat.mul_one] at this
    omega
  have e3 : (x / 2 ^ r + C * y) % 4294967296 = x / 2 ^ r + C * (y % 2 ^ r) := by
    rw [e2, ← Nat.add_assoc, Nat.add_mul_mod_self_left]
    exact Nat.mod_eq_of_lt (by omega)
  rw [e1, e3, Nat.add_mul]
  have e4 := Nat.div_add_mod x (2 ^ r)
  have e5 : C * (y % 2 ^ r) * 2 ^ r = 4294967296 * (y % 2 ^ r) := by rw [Nat.mul_right_comm, ← hC]
  rw [Nat.mul_comm] at e4
  omega
theorem shr_step {zs vs : List Nat} {k r z t : Nat} (hk : k < zs.length) (h : val (zs.take k) * 2 ^ r + t = val (vs.take k) + 4294967296 ^ k * (nth vs k % 2 ^ r))
    (hz : z * 2 ^ r + nth vs k % 2 ^ r = nth vs k + 4294967296 * (nth vs (k + 1) % 2 ^ r)) :
    val ((zs.set k z).take (k + 1)) * 2 ^ r + t = val (vs.take (k + 1)) + 4294967296 ^ (k + 1) * (nth vs (k + 1) % 2 ^ r) := by
  rw [val_take_set hk, val_take_step vs, Nat.pow_succ, Nat.mul_assoc, Nat.add_mul, Nat.mul_assoc]
  generalize 4294967296 ^ k = P at *
  have e : P * (z * 2 ^ r + nth vs k % 2 ^ r) = P * (z * 2 ^ r) + P * (nth vs k % 2 ^ r) := Nat.mul_add _ _ _
  rw [hz, Nat.mul_add] at e
  omega

set_option maxHeartbeats 1000000 in
set_option maxRecDepth 100000 in
theorem shr_any (a : Option Addr) (xs : List Nat) (c n : Nat) (w : World) (hx : Rd w a xs) (hxc : xs.length ≤ c) (hc : c ≤ maxLen) (hxl : xs.length ≤ 1100000) (hn : n ≤ 65536) :
    Calls Tryd.prog 94 #[.slice a xs.length c, .int .i64 n] w (MadeC w (val xs / 2 ^ n) ((limbs (val xs)).length - n / 32)) := by
  have H1 := Lib.hid (trim_any a xs c w hx hxc hc)
  have h1 := hx.limbs
  have hl1 := limbs_len_le hx.lt32
  have Hv1 := Lib.hid (val_limbs (val xs))
  go_enter Tryd.func94, Tryd.ntmps94
  go_wp2_with fail
  refine H1.out.mono ?_
  rintro e w2 ⟨rfl, rfl⟩
  clear H1 hx
  generalize limbs (val xs) = us at *
  by_cases hq : us.length ≤ n / 32
  · have hq2 : (us.length : Int) ≤ (n : Int) / 32 := by omega
    go_wp2_with fail
    go_ret
    have h2 := val_lt h1.lt32
    rw [Hv1.out, pow32] at h2
    refine ⟨none, 0, [], ret_len (by omega), by simp; omega, by omega, by unfold maxLen; omega, ?_, .nil _ _, .refl _⟩
    rw [Nat.div_eq_of_lt (Nat.lt_of_lt_of_le h2 (Nat.pow_le_pow_right (by decide) (by omega)))]; rfl
  · have hq2 : ¬ (us.length : Int) ≤ (n : Int) / 32 := by omega
    obtain ⟨b1, o1, rfl, _⟩ := h1.some (i := 0) (by omega)
    have h2 := h1.drop (n / 32)
    have hcap : us.length ≤ c := by omega
    have hq3 : (n : Int) / 32 < us.length := by omega
    have hvl : (us.drop (n / 32)).length = us.length - n / 32 := List.length_drop
    have hval : val (us.drop (n / 32)) = val us / 4294967296 ^ (n / 32) := by
      have e := val_take_drop us (n / 32) (by omega)
      have b := val_lt (h1.lt32.take (n / 32))
      rw [List.length_take, Nat.min_eq_left (by omega)] at b
      rw [e, Nat.add_mul_div_left _ _ (Nat.pow_pos (by decide)), Nat.div_eq_of_lt b, Nat.zero_add]
    have Hval := Lib.hid hval
    clear hq2 hval h1
    generalize us.drop (n / 32) = vs at *
    have hr : n % 32 < 32 := Nat.mod_lt _ (by decide)
    have hvl2 : us.length - n / 32 ≤ vs.length := by omega
    have Hvl := Lib.hid hvl
    clear hvl
    have hmk := make_u32 ((us.length - n / 32 : Nat) : Int) (us.length - n / 32) rfl (by omega)
    go_wp2_with fail
    clear hmk
    go_loopw [25] (fun ix wr => ∃ (k : Nat) (zs : List Nat), k ≤ us.length - n / 32 ∧ ix = .int .i64 k ∧ zs.length = us.length - n / 32 ∧ Blk wr w.heap.size zs ∧ Lt32 zs ∧
      val (zs.take k) * 2 ^ (n % 32) + nth vs 0 % 2 ^ (n % 32) = val (vs.take k) + 4294967296 ^ k * (nth vs k % 2 ^ (n % 32)) ∧ Kp w wr) (fun ix _ => (us.length - n / 32) - (intOf ix).toNat)
    case atStart => exact ⟨0, _, Nat.zero_le _, rfl, by simp, Blk.made _ _, .replicate _, by simp [val], (Kp.refl _).alloc _⟩
    case round =>
      obtain ⟨k, zs, hk, rfl, hzl, hb, hz32, hvz, hkp⟩ := hrel
      have Hvz := Lib.hid hvz
      have Hzl := Lib.hid hzl
      clear hvz
      by_cases hlt : k < us.length - n / 32
      · obtain ⟨b2, o2, e2, hcx⟩ := (h2.kp hkp).some (i := k) (by omega)
        cases e2
        have hx1 := hcx k (by omega)
        have bx := h2.lt32.nth k
        have bx2 := h2.lt32.nth (k + 1)
        have hs1 := hb.cell (i := k) (by omega)
        have hs2 := hb.frozen k
        have Hst := Lib.hid (fun z => shr_step (zs := zs) (z := z) (by omega) Hvz.out)
        have Hl := Lib.hid (shr_limb (y := nth vs (k + 1)) bx hr)
        by_cases hlt2 : k + 1 < us.length - n / 32
        · have hx2 := hcx (k + 1) (by omega)
          have hor := shr_or bx bx2
          clear hcx
          go_wp2_with fail
          go_roundw
          case rel =>
            refine ⟨k + 1, zs.set k ((nth vs k + 4294967296 * nth vs (k + 1)) / 2 ^ (n % 32) % 4294967296), by omega, by go_num, by simp [Hzl.out], hb.put (cast_shr _ _ _), hz32.set _ _ (Nat.mod_lt _ (by decide)), Hst.out _ Hl.out, hkp.set (Nat.le_refl _) _⟩
          case measure => simp [intOf]; omega
        · have h0 : nth vs (k + 1) = 0 := nth_ge (by rw [Hvl.out]; omega)
          have H0 := Lib.hid h0
          clear hcx h0
          go_wp2_with fail
          go_roundw
          case rel =>
            have h3 := Hl.out
            rw [H0.out, Nat.mul_zero, Nat.add_zero] at h3
            refine ⟨k + 1, zs.set k (nth vs k / 2 ^ (n % 32) % 4294967296), by omega, by go_num, by simp [Hzl.out], hb.put (cast_shr0 _ _), hz32.set _ _ (Nat.mod_lt _ (by decide)), Hst.out _ (by rw [H0.out]; exact h3), hkp.set (Nat.le_refl _) _⟩
          case measure => simp [intOf]; omega
      · have hke : k = us.length - n / 32 := by omega
        have Hke := Lib.hid hke
        clear hke
        go_wp2_with fail
        go_ret
        have e2 := Hvz.out
        have h0 : nth vs k = 0 := nth_ge (by rw [Hvl.out, Hke.out]; omega)
        rw [h0, Nat.zero_mod, Nat.mul_zero, Nat.add_zero, Hke.out, List.take_of_length_le (by rw [Hzl.out]; omega), List.take_of_length_le (by rw [Hvl.out]; omega)] at e2
        have hlt3 := Nat.mod_lt (nth vs 0) (two_pow_pos (n % 32))
        have e3 : val zs = val vs / 2 ^ (n % 32) := by
          rw [← e2, Nat.mul_comm, Nat.mul_add_div (two_pow_pos _), Nat.div_eq_of_lt hlt3, Nat.add_zero]
        refine ⟨_, us.length - n / 32, zs, ret_len rfl, Hzl.out, Nat.le_refl _, by unfold maxLen; omega, ?_, hb.rd hz32, hkp⟩
        rw [e3, Hval.out, Hv1.out, Nat.div_div_eq_div_mul, pow_split]
end Go.Proofs.YtkohlmlmoapedaaDoor
end

section
namespace Go.Proofs.YtkohlmlmoapedaaDoor
open Go.RowKit

set_option maxHeartbeats 400000 in
theorem Add_any (a b : Option Addr) (xs ys : List Nat) (c d : Nat) (w : World) (hx : Rd w a xs) (hy : Rd w b ys) (hxl : xs.length ≤ 256) (hyl : ys.length ≤ 256) (hv : (limbs (val xs + val ys)).length ≤ 256) :
    Calls Tryd.prog 87 #[.slice a xs.length c, .slice b ys.length d] w (Nat2 w (val xs + val ys) 0) := by
  have Hv := Lib.hid hv
  clear hv
  go_enter Tryd.func87, Tryd.ntmps87
  go_wp2_with fail
  refine (long_two a b xs.length c ys.length d _ _ hxl hyl (by simp) (by simp)).mono ?_
  rintro e w1 ⟨rfl, hk1⟩
  have hk : Kp w w1 := ((Kp.refl w).alloc _).trans hk1
  clear hk1
  go_wp2_with fail
  refine (add_any a b xs ys c d _ (hx.kp hk) (hy.kp hk) (by omega) (by omega)).mono ?_
  rintro e w2 ⟨g, zs, rfl, hzl, hzv, hrd, hk2⟩
  have hm : zs.length ≤ maxLen := by rw [hzl]; unfold maxLen; omega
  rw [← hzl]
  have Hzv := Lib.hid hzv
  clear hzv hzl
  go_wp2_with fail
  refine (done_ok _ zs _ _ hrd (Nat.le_refl _) hm (by rw [Hzv.out]; exact Hv.out)).mono ?_
  rintro e w3 ⟨a3, c3, rfl, h1, h2, h3, h4⟩
  go_wp2_with fail
  go_ret2
  rw [Hzv.out] at h1 h3 ⊢
  exact ⟨a3, c3, rfl, h1, h2, h3, (hk.trans hk2).trans h4⟩

set_option maxHeartbeats 400000 in
theorem Sub_any (a b : Option Addr) (xs ys : List Nat) (c d : Nat) (w : World) (hx : Rd w a xs) (hy : Rd w b ys) (hxl : xs.length ≤ 256) (hyl : ys.length ≤ 256) (hxc : xs.length ≤ c) (hyc : ys.length ≤ d) (hc : c ≤ maxLen) (hd : d ≤ maxLen) (hle : val ys ≤ val xs) :
    Calls Tryd.prog 88 #[.slice a xs.length c, .slice b ys.length d] w (Nat2 w (val xs - val ys) 0) := by
  have hl1 := limbs_len_le hx.lt32
  have Hv := Lib.hid (Nat.le_trans (limbs_length_mono (Nat.sub_le (val xs) (val ys))) (Nat.le_trans hl1 hxl))
  have Hcmp := Lib.hid hle
  have hcm : ¬ cmpN (val xs) (val ys) < 0 := by unfold cmpN; rw [if_neg (by omega)]; split <;> omega
  go_enter Tryd.func88, Tryd.ntmps88
  go_wp2_with fail
  refine (long_two a b xs.length c ys.length d _ _ hxl hyl (by simp) (by simp)).mono ?_
  rintro e w1 ⟨rfl, hk1⟩
  have hk : Kp w w1 := ((Kp.refl w).alloc _).trans hk1
  clear hk1
  go_wp2_with fail
  refine (cmp_any a b xs ys c d _ (hx.kp hk) (hy.kp hk) hxc hyc hc hd).mono ?_
  rintro e w2 ⟨rfl, hk2⟩
  have hk' := hk.trans hk2
  clear hk hk2
  go_wp2_with fail
  refine (sub_any a b xs ys c d _ (hx.kp hk') (hy.kp hk') (by omega) hxc hyc hc hd Hcmp.out).mono ?_
  rintro e w3 ⟨g, zs, rfl, hzl, hzv, hrd, hk3⟩
  have hm : zs.length ≤ maxLen := by rw [hzl]; unfold maxLen; omega
  rw [← hzl]
  have Hzv := Lib.hid hzv
  clear hzv hzl
  go_wp2_with fail
  refine (done_ok _ zs _ _ hrd (Nat.le_refl _) hm (by rw [Hzv.out]; exact Hv.out)).mono ?_
  rintro e w4 ⟨a3, c3, rfl, h1, h2, h3, h4⟩
  go_wp2_with fail
  go_ret2
  rw [Hzv.out] at h1 h3 ⊢
  exact ⟨a3, c3, rfl, h1, h2, h3, (hk'.trans hk3).trans h4⟩

set_option maxHeartbeats 400000 in
theorem Shl_any (a : Option Addr) (xs : List Nat) (c : Nat) (n : Int) (w : World) (hx : Rd w a xs) (hxl : xs.length ≤ 256) (hxc : xs.length ≤ c) (hc : c ≤ maxLen) (h0 : 0 ≤ n) (hn : n ≤ 65536) (hv : (limbs (val xs * 2 ^ n.toNat)).length ≤ 256) :
    Calls Tryd.prog 82 #[.slice a xs.length c, .int .i64 n] w (Nat2 w (val xs * 2 ^ n.toNat) 0) := by
  obtain ⟨n, rfl⟩ := Int.eq_ofNat_of_zero_le h0
  rw [Int.toNat_natCast] at hv ⊢
  have Hv := Lib.hid hv
  clear hv
  have hl1 := limbs_len_le hx.lt32
  go_enter Tryd.func82, Tryd.ntmps82
  go_wp2_with fail
  refine (long_one a xs.length c _ _ hxl (by simp)).mono ?_
  rintro e w1 ⟨rfl, hk1⟩
  have hk : Kp w w1 := ((Kp.refl w).alloc _).trans hk1
  clear hk1
  go_wp2_with fail
  refine (shl_any a xs c n _ (hx.kp hk) hxc hc (by omega) (by omega)).mono ?_
  rintro e w3 ⟨a2, c2, zs, rfl, hzl, hzc, hcm, hzv, hrd, hk3⟩
  rw [← hzl] at hzc ⊢
  have Hzv := Lib.hid hzv
  clear hzv hzl
  go_wp2_with fail
  refine (done_ok _ zs _ _ hrd hzc hcm (by rw [Hzv.out]; exact Hv.out)).mono ?_
  rintro e w4 ⟨a3, c3, rfl, h1, h2, h3, h4⟩
  go_wp2_with fail
  go_ret2
  rw [Hzv.out] at h1 h3 ⊢
  exact ⟨a3, c3, rfl, h1, h2, h3, (hk.trans hk3).trans h4⟩

set_option maxHeartbeats 400000 in
theorem Shr_any (a : Option Addr) (xs : List Nat) (c : Nat) (n : Int) (w : World) (hx : Rd w a xs) (hxl : xs.length ≤ 256) (hxc : xs.length ≤ c) (hc : c ≤ maxLen) (h0 : 0 ≤ n) (hn : n ≤ 65536) :
    Calls Tryd.prog 77 #[.slice a xs.length c, .int .i64 n] w (Nat2 w (val xs / 2 ^ n.toNat) 0) := by
  obtain ⟨n, rfl⟩ := Int.eq_ofNat_of_zero_le h0
  rw [Int.toNat_natCast]
  have hl1 := limbs_len_le hx.lt32
  have Hv := Lib.hid (Nat.le_trans (limbs_length_mono (Nat.div_le_self (val xs) (2 ^ n))) (Nat.le_trans hl1 hxl))
  go_enter Tryd.func77, Tryd.ntmps77
  go_wp2_with fail
  refine (long_one a xs.length c _ _ hxl (by simp)).mono ?_
  rintro e w1 ⟨rfl, hk1⟩
  have hk : Kp w w1 := ((Kp.refl w).alloc _).trans hk1
  clear hk1
  go_wp2_with fail
  refine (shr_any a xs c n _ (hx.kp hk) hxc hc (by omega) (by omega)).mono ?_
  rintro e w3 ⟨a2, c2, zs, rfl, hzl, hzc, hcm, hzv, hrd, hk3⟩
  rw [← hzl] at hzc ⊢
  have Hzv := Lib.hid hzv
  clear hzv hzl
  go_wp2_with fail
  refine (done_ok _ zs _ _ hrd hzc hcm (by rw [Hzv.out]; exact Hv.out)).mono ?_
  rintro e w4 ⟨a3, c3, rfl, h1, h2, h3, h4⟩
  go_wp2_with fail
  go_ret2
  rw [Hzv.out] at h1 h3 ⊢
  exact ⟨a3, c3, rfl, h1, h2, h3, (hk.trans hk3).trans h4⟩
end Go.Proofs.YtkohlmlmoapedaaDoor
end
