/-
  Walks: the reference's Sum, whole; Add, Sub of valid numbers.
  Walks: the reference's Sum of numbers as they come.
-/
import Derived.Test.YtkkiinbgjjjcoaaGreatDoorMR2K
import Derived.Test.YtkkiinbgjjjcoaaGreatDoorMSumH
section
namespace Go.Proofs.YtkkiinbgjjjcoaaGreatDoor
open Go.RowKit

set_option maxHeartbeats 1000000 in
theorem r2sum_z1 (d f : Dy) (a b : Option Addr) (c k : Nat) (w : World) (hd : DyAt w d a c) (hf : DyAt w f b k) (hd0 : d.m = 0) :
    Calls Tryz.prog 27 #[.agg #[.bool d.neg, .slice a (limbs d.m).length c, .int .i64 d.e], .agg #[.bool f.neg, .slice b (limbs f.m).length k, .int .i64 f.e]] w (DyOut w (sumD d f)) := by
  have Hs := Lib.hid (show sumD d f = f by rw [d.eq_zero hd.1 hd0, sumD_zero hf.1])
  have z1 := len_is0 hd0
  clear hd0
  go_enter Tryz.func27, Tryz.ntmps27
  go_wp2_with fail
  generalize hW : (((w.alloc _).alloc _).alloc _) = W at *
  have hk : Kp w W := hW ▸ (((Kp.refl w).alloc _).alloc _).alloc _
  obtain ⟨q0, q1, q2, f0, f1, f2⟩ : Box3 W (w.heap.size + 2) (.bool f.neg) (.slice b (limbs f.m).length k) (.int .i64 f.e) := hW ▸ Box3.new3 _ _ _ _ _ _ _
  clear hW
  refine bodyPost_ret (v := .agg #[.bool f.neg, .slice b (limbs f.m).length k, .int .i64 f.e]) (by simp [results, Tryz.results27, go_sem, q0, q1, q2]) rfl ?_
  rw [Hs.out]
  exact ⟨b, k, rfl, hf.2.1.kp hk, hf.2.2.1, hf.2.2.2, hk⟩
set_option maxHeartbeats 1000000 in
theorem r2sum_z2 (d f : Dy) (a b : Option Addr) (c k : Nat) (w : World) (hd : DyAt w d a c) (hf : DyAt w f b k) (hd0 : d.m ≠ 0) (hf0 : f.m = 0) :
    Calls Tryz.prog 27 #[.agg #[.bool d.neg, .slice a (limbs d.m).length c, .int .i64 d.e], .agg #[.bool f.neg, .slice b (limbs f.m).length k, .int .i64 f.e]] w (DyOut w (sumD d f)) := by
  have Hs := Lib.hid (show sumD d f = d by rw [f.eq_zero hf.1 hf0, sumD_zero' hd.1])
  have z1 := len_ne hd0
  have z2 := len_is0 hf0
  clear hd0 hf0
  go_enter Tryz.func27, Tryz.ntmps27
  go_wp2_with fail
  generalize hW : (((w.alloc _).alloc _).alloc _) = W at *
  have hk : Kp w W := hW ▸ (((Kp.refl w).alloc _).alloc _).alloc _
  obtain ⟨q0, q1, q2, f0, f1, f2⟩ : Box3 W (w.heap.size + 2) (.bool d.neg) (.slice a (limbs d.m).length c) (.int .i64 d.e) := hW ▸ Box3.new3 _ _ _ _ _ _ _
  clear hW
  refine bodyPost_ret (v := .agg #[.bool d.neg, .slice a (limbs d.m).length c, .int .i64 d.e]) (by simp [results, Tryz.results27, go_sem, q0, q1, q2]) rfl ?_
  rw [Hs.out]
  exact ⟨a, c, rfl, hd.2.1.kp hk, hd.2.2.1, hd.2.2.2, hk⟩
theorem r2sum_ok (d f : Dy) (a b : Option Addr) (c k : Nat) (w : World) (hd : DyAt w d a c) (hf : DyAt w f b k) :
    Calls Tryz.prog 27 #[.agg #[.bool d.neg, .slice a (limbs d.m).length c, .int .i64 d.e], .agg #[.bool f.neg, .slice b (limbs f.m).length k, .int .i64 f.e]] w (DyOut w (sumD d f)) := by
  by_cases hd0 : d.m = 0
  · exact r2sum_z1 d f a b c k w hd hf hd0
  · by_cases hf0 : f.m = 0
    · exact r2sum_z2 d f a b c k w hd hf hd0 hf0
    · by_cases hs : d.neg = f.neg
      · exact r2sum_same d f a b c k w hd hf hd0 hf0 hs
      · rcases Nat.lt_or_ge (d.m * 2 ^ (d.e - min d.e f.e).toNat) (f.m * 2 ^ (f.e - min d.e f.e).toNat) with h | h
        · exact r2sum_lt d f a b c k w hd hf hd0 hf0 hs h
        · exact r2sum_ge d f a b c k w hd hf hd0 hf0 hs h
end Go.Proofs.YtkkiinbgjjjcoaaGreatDoor
end

section
namespace Go.Proofs.YtkkiinbgjjjcoaaGreatDoor
open Go.RowKit

theorem av_bits_le {d : Dy} (h : d.ok) : bits d.av ≤ 32768 := by
  by_cases h0 : d.m = 0
  · unfold Dy.av; rw [h0, Nat.zero_mul, bits_zero]; exact Nat.zero_le _
  · have := av_bits h h0
    have := topI_bounds h
    omega
theorem sumD_small {d f : Dy} (hd : d.ok) (hf : f.ok) : (limbs (sumD d f).m).length ≤ 2000 ∧ I64 (sumD d f).e := by
  have h1 := bits_add_le (av_bits_le hd) (av_bits_le hf)
  have h2 : (d.iv + f.iv).natAbs ≤ d.av + f.av := by
    rw [Dy.iv_av, Dy.iv_av]
    unfold sg
    split <;> split <;> omega
  have h3 := Nat.le_trans (bits_mono h2) h1
  unfold sumD ofI
  generalize (d.iv + f.iv).natAbs = n at *
  unfold canon
  split
  · exact ⟨by show (limbs 0).length ≤ 2000; rw [limbs_zero]; exact Nat.zero_le _, by decide, by decide⟩
  · next h0 =>
    have e1 := bits_oddp h0
    exact ⟨limbs_len_bits (by show bits (oddp n) ≤ 32 * 2000; omega), by show _ ≤ -16384 + (tz n : Int); omega, by show -16384 + (tz n : Int) ≤ _; omega⟩
theorem r2sum_rd (x y : RD) (w : World) (hx : x.ok w) (hy : y.ok w) :
    Calls Tryz.prog 27 #[.agg #[.bool x.neg, .slice x.a x.xs.length x.c, .int .i64 x.e], .agg #[.bool y.neg, .slice y.a y.xs.length y.c, .int .i64 y.e]] w (NumOut w (sumD x.dy y.dy)) := by
  have H := r2sum_ok x.dy y.dy x.a y.a x.c y.c w (rdok_at hx) (rdok_at hy)
  rw [rdok_limbs hx, rdok_limbs hy] at H
  obtain ⟨hl, he⟩ := sumD_small (rdok_dy hx) (rdok_dy hy)
  refine H.mono fun e w' h => ?_
  obtain ⟨a, c, h1, h2, h3, h4, h5⟩ := h
  exact ⟨rdOf _ a c, h1, ⟨h2, h3, h4, by show (limbs (sumD x.dy y.dy).m).length ≤ 1100000; omega, he⟩, rdOf_dy _ a c, fun hd => rdOf_vl hd a c, h5⟩
end Go.Proofs.YtkkiinbgjjjcoaaGreatDoor
end
