/-
  Walks: round.Down, Up, AddDown, AddUp, MulDown, MulUp, DivDown, DivUp, SqrtDown, SqrtUp, each from a contract of the inner function.
  Plain law: the exact sum of two numbers, as a canonical form; where the tops lie far above the lower exponent nothing cancels out, and the sum is out of range.
  Walks: dyadic.sum of two numbers that are not 0: far apart; of the same sign.
-/
import Derived.Test.YtdlpiblgkpgplaaGreatDoorMRoF
import Derived.Test.YtdlpiblgkpgplaaGreatDoorMCmpD
import Derived.Test.YtdlpiblgkpgplaaGreatDoorMDyA
import Derived.Test.YtdlpiblgkpgplaaGreatDoorMDyD
import Derived.Test.YtdlpiblgkpgplaaGreatDoorMMul
section
namespace Go.Proofs.YtdlpiblgkpgplaaGreatDoor
open Go.RowKit

theorem rAddDown_of (x y : RD) (p : Int) (D : Dy) (f : Int) (w : World) (hin : ∀ W, Kp w W → Calls Tryz.prog 96 #[.agg #[.bool x.neg, .slice x.a x.xs.length x.c, .int .i64 x.e], .agg #[.bool y.neg, .slice y.a y.xs.length y.c, .int .i64 y.e], .int .i64 p, .bool false] W (NumE W D f)) :
    Calls Tryz.prog 50 #[.agg #[.bool x.neg, .slice x.a x.xs.length x.c, .int .i64 x.e], .agg #[.bool y.neg, .slice y.a y.xs.length y.c, .int .i64 y.e], .int .i64 p] w (NumE w D f) := by
  have Ha := Lib.hid hin
  clear hin
  go_enter Tryz.func50, Tryz.ntmps50
  go_wp2_with fail
  generalize hW : (((w.alloc _).alloc _).alloc _) = W at *
  have hk : Kp w W := hW ▸ (((Kp.refl w).alloc _).alloc _).alloc _
  have hB : Box3 W (w.heap.size + 2) (.bool false) (.slice none 0 0) (.int .i64 0) := hW ▸ Box3.new3 _ _ _ _ _ _ _
  clear hW
  refine (Ha.out _ hk).mono ?_
  rintro e w5 ⟨z, rfl, hzr, hzd, hzv, hk5⟩
  obtain ⟨q0, q1, q2, f0, f1, f2⟩ := hB.kp hk5
  have hk6 := hk.trans hk5
  clear hB hk5
  have hst := stored q0 q1 q2 (fun _ h => by cases h) (fun _ h => by cases h) (fun _ h => by cases h) (.bool z.neg) (.slice z.a z.xs.length z.c) (.int .i64 z.e)
  go_wp2_with fail
  generalize (((w5.setCell _ _).setCell _ _).setCell _ _) = W2 at hst ⊢
  obtain ⟨s0, s1, s2, _, s4, s5, _, _⟩ := hst
  refine bodyPost_ret (v := .tuple #[.agg #[.bool z.neg, .slice z.a z.xs.length z.c, .int .i64 z.e], .int .i64 f]) (by simp [results, Tryz.results50, go_sem, s0, s1, s2]) rfl ?_
  exact ⟨z, rfl, ⟨s4 _ _ hzr.1, hzr.2⟩, hzd, hzv, s5 _ hk6 (by omega)⟩
theorem rAddUp_of (x y : RD) (p : Int) (D : Dy) (f : Int) (w : World) (hin : ∀ W, Kp w W → Calls Tryz.prog 96 #[.agg #[.bool x.neg, .slice x.a x.xs.length x.c, .int .i64 x.e], .agg #[.bool y.neg, .slice y.a y.xs.length y.c, .int .i64 y.e], .int .i64 p, .bool true] W (NumE W D f)) :
    Calls Tryz.prog 52 #[.agg #[.bool x.neg, .slice x.a x.xs.length x.c, .int .i64 x.e], .agg #[.bool y.neg, .slice y.a y.xs.length y.c, .int .i64 y.e], .int .i64 p] w (NumE w D f) := by
  have Ha := Lib.hid hin
  clear hin
  go_enter Tryz.func52, Tryz.ntmps52
  go_wp2_with fail
  generalize hW : (((w.alloc _).alloc _).alloc _) = W at *
  have hk : Kp w W := hW ▸ (((Kp.refl w).alloc _).alloc _).alloc _
  have hB : Box3 W (w.heap.size + 2) (.bool false) (.slice none 0 0) (.int .i64 0) := hW ▸ Box3.new3 _ _ _ _ _ _ _
  clear hW
  refine (Ha.out _ hk).mono ?_
  rintro e w5 ⟨z, rfl, hzr, hzd, hzv, hk5⟩
  obtain ⟨q0, q1, q2, f0, f1, f2⟩ := hB.kp hk5
  have hk6 := hk.trans hk5
  clear hB hk5
  have hst := stored q0 q1 q2 (fun _ h => by cases h) (fun _ h => by cases h) (fun _ h => by cases h) (.bool z.neg) (.slice z.a z.xs.length z.c) (.int .i64 z.e)
  go_wp2_with fail
  generalize (((w5.setCell _ _).setCell _ _).setCell _ _) = W2 at hst ⊢
  obtain ⟨s0, s1, s2, _, s4, s5, _, _⟩ := hst
  refine bodyPost_ret (v := .tuple #[.agg #[.bool z.neg, .slice z.a z.xs.length z.c, .int .i64 z.e], .int .i64 f]) (by simp [results, Tryz.results52, go_sem, s0, s1, s2]) rfl ?_
  exact ⟨z, rfl, ⟨s4 _ _ hzr.1, hzr.2⟩, hzd, hzv, s5 _ hk6 (by omega)⟩
theorem rMulDown_of (x y : RD) (p : Int) (D : Dy) (f : Int) (w : World) (hin : ∀ W, Kp w W → Calls Tryz.prog 169 #[.agg #[.bool x.neg, .slice x.a x.xs.length x.c, .int .i64 x.e], .agg #[.bool y.neg, .slice y.a y.xs.length y.c, .int .i64 y.e], .int .i64 p, .bool false] W (NumE W D f)) :
    Calls Tryz.prog 143 #[.agg #[.bool x.neg, .slice x.a x.xs.length x.c, .int .i64 x.e], .agg #[.bool y.neg, .slice y.a y.xs.length y.c, .int .i64 y.e], .int .i64 p] w (NumE w D f) := by
  have Ha := Lib.hid hin
  clear hin
  go_enter Tryz.func143, Tryz.ntmps143
  go_wp2_with fail
  generalize hW : (((w.alloc _).alloc _).alloc _) = W at *
  have hk : Kp w W := hW ▸ (((Kp.refl w).alloc _).alloc _).alloc _
  have hB : Box3 W (w.heap.size + 2) (.bool false) (.slice none 0 0) (.int .i64 0) := hW ▸ Box3.new3 _ _ _ _ _ _ _
  clear hW
  refine (Ha.out _ hk).mono ?_
  rintro e w5 ⟨z, rfl, hzr, hzd, hzv, hk5⟩
  obtain ⟨q0, q1, q2, f0, f1, f2⟩ := hB.kp hk5
  have hk6 := hk.trans hk5
  clear hB hk5
  have hst := stored q0 q1 q2 (fun _ h => by cases h) (fun _ h => by cases h) (fun _ h => by cases h) (.bool z.neg) (.slice z.a z.xs.length z.c) (.int .i64 z.e)
  go_wp2_with fail
  generalize (((w5.setCell _ _).setCell _ _).setCell _ _) = W2 at hst ⊢
  obtain ⟨s0, s1, s2, _, s4, s5, _, _⟩ := hst
  refine bodyPost_ret (v := .tuple #[.agg #[.bool z.neg, .slice z.a z.xs.length z.c, .int .i64 z.e], .int .i64 f]) (by simp [results, Tryz.results143, go_sem, s0, s1, s2]) rfl ?_
  exact ⟨z, rfl, ⟨s4 _ _ hzr.1, hzr.2⟩, hzd, hzv, s5 _ hk6 (by omega)⟩
theorem rMulUp_of (x y : RD) (p : Int) (D : Dy) (f : Int) (w : World) (hin : ∀ W, Kp w W → Calls Tryz.prog 169 #[.agg #[.bool x.neg, .slice x.a x.xs.length x.c, .int .i64 x.e], .agg #[.bool y.neg, .slice y.a y.xs.length y.c, .int .i64 y.e], .int .i64 p, .bool true] W (NumE W D f)) :
    Calls Tryz.prog 144 #[.agg #[.bool x.neg, .slice x.a x.xs.length x.c, .int .i64 x.e], .agg #[.bool y.neg, .slice y.a y.xs.length y.c, .int .i64 y.e], .int .i64 p] w (NumE w D f) := by
  have Ha := Lib.hid hin
  clear hin
  go_enter Tryz.func144, Tryz.ntmps144
  go_wp2_with fail
  generalize hW : (((w.alloc _).alloc _).alloc _) = W at *
  have hk : Kp w W := hW ▸ (((Kp.refl w).alloc _).alloc _).alloc _
  have hB : Box3 W (w.heap.size + 2) (.bool false) (.slice none 0 0) (.int .i64 0) := hW ▸ Box3.new3 _ _ _ _ _ _ _
  clear hW
  refine (Ha.out _ hk).mono ?_
  rintro e w5 ⟨z, rfl, hzr, hzd, hzv, hk5⟩
  obtain ⟨q0, q1, q2, f0, f1, f2⟩ := hB.kp hk5
  have hk6 := hk.trans hk5
  clear hB hk5
  have hst := stored q0 q1 q2 (fun _ h => by cases h) (fun _ h => by cases h) (fun _ h => by cases h) (.bool z.neg) (.slice z.a z.xs.length z.c) (.int .i64 z.e)
  go_wp2_with fail
  generalize (((w5.setCell _ _).setCell _ _).setCell _ _) = W2 at hst ⊢
  obtain ⟨s0, s1, s2, _, s4, s5, _, _⟩ := hst
  refine bodyPost_ret (v := .tuple #[.agg #[.bool z.neg, .slice z.a z.xs.length z.c, .int .i64 z.e], .int .i64 f]) (by simp [results, Tryz.results144, go_sem, s0, s1, s2]) rfl ?_
  exact ⟨z, rfl, ⟨s4 _ _ hzr.1, hzr.2⟩, hzd, hzv, s5 _ hk6 (by omega)⟩
end Go.Proofs.YtdlpiblgkpgplaaGreatDoor
end

section
namespace Go.Proofs.YtdlpiblgkpgplaaGreatDoor

/-- the canonical number of the value v steps -/
def ofI (v : Int) : Dy := canon (decide (v < 0)) v.natAbs (-16384)
theorem ofI_iv (v : Int) : (ofI v).iv = v := by
  unfold ofI
  rw [canon_iv _ _ _ (Int.le_refl _)]
  show sg _ (v.natAbs * 2 ^ 0) = v
  rw [Nat.pow_zero, Nat.mul_one]
  unfold sg
  by_cases h : v < 0
  · rw [if_pos (by simpa using h)]; omega
  · rw [if_neg (by simpa using h)]; omega
/-- any canonical form from the lowest exponent on is the canonical number of its value -/
theorem canon_ofI (s : Bool) (n : Nat) (e : Int) (h : -16384 ≤ e) : canon s n e = ofI (sg s (n * 2 ^ (e + 16384).toNat)) := by
  by_cases h0 : n = 0
  · subst h0
    rw [canon_zero, Nat.zero_mul, sg_zero]
    rfl
  · have hp : 0 < n * 2 ^ (e + 16384).toNat := Nat.mul_pos (by omega) (Nat.pow_pos (by decide))
    have e1 : canon s n e = canon s (n * 2 ^ (e + 16384).toNat) (-16384) := by
      rw [canon_shift]; congr 1; omega
    rw [e1]
    generalize n * 2 ^ (e + 16384).toNat = V at *
    unfold ofI sg
    cases s
    · have h1 : decide ((V : Int) < 0) = false := by simp
      simp only [Bool.false_eq_true, if_false, h1, Int.natAbs_natCast]
    · have h1 : decide (-(V : Int) < 0) = true := by simp; omega
      simp only [if_true, h1, Int.natAbs_neg, Int.natAbs_natCast]
theorem ofI_of_ok {d : Dy} (h : d.ok) : ofI d.iv = d := by
  have e := canon_ofI d.neg d.m d.e (ok_e h).1
  rw [canon_ok h] at e
  exact e.symm
/-- the exact sum, in range or not -/
def sumD (d f : Dy) : Dy := ofI (d.iv + f.iv)
theorem sumD_iv (d f : Dy) : (sumD d f).iv = d.iv + f.iv := ofI_iv _
theorem sumD_zero {d : Dy} (h : d.ok) : sumD .zero d = d := by
  unfold sumD; rw [Dy.iv_zero, Int.zero_add]; exact ofI_of_ok h
theorem sumD_zero' {d : Dy} (h : d.ok) : sumD d .zero = d := by
  unfold sumD; rw [Dy.iv_zero, Int.add_zero]; exact ofI_of_ok h
theorem sumD_comm (d f : Dy) : sumD d f = sumD f d := by unfold sumD; rw [Int.add_comm]
/-- numbers over a common exponent -/
theorem iv_at {d : Dy} {k : Int} (h0 : -16384 ≤ k) (hk : k ≤ d.e) : d.iv = sg d.neg (d.m * 2 ^ (d.e - k).toNat * 2 ^ (k + 16384).toNat) := by
  unfold Dy.iv
  rw [Nat.mul_assoc, ← Nat.pow_add]
  congr 3; omega
theorem sum_same {d f : Dy} {k : Int} (h0 : -16384 ≤ k) (hd : k ≤ d.e) (hf : k ≤ f.e) (hs : d.neg = f.neg) : sumD d f = canon d.neg (d.m * 2 ^ (d.e - k).toNat + f.m * 2 ^ (f.e - k).toNat) k := by
  rw [canon_ofI _ _ _ h0]
  unfold sumD
  rw [iv_at h0 hd, iv_at h0 hf, ← hs, Nat.add_mul]
  congr 1
  unfold sg
  split <;> push_cast <;> omega
theorem sum_diff {d f : Dy} {k : Int} (h0 : -16384 ≤ k) (hd : k ≤ d.e) (hf : k ≤ f.e) (hs : d.neg ≠ f.neg) (hle : f.m * 2 ^ (f.e - k).toNat ≤ d.m * 2 ^ (d.e - k).toNat) : sumD d f = canon d.neg (d.m * 2 ^ (d.e - k).toNat - f.m * 2 ^ (f.e - k).toNat) k := by
  rw [canon_ofI _ _ _ h0]
  unfold sumD
  rw [iv_at h0 hd, iv_at h0 hf, Nat.sub_mul]
  have hle2 := Nat.mul_le_mul_right (2 ^ (k + 16384).toNat) hle
  generalize d.m * 2 ^ (d.e - k).toNat * 2 ^ (k + 16384).toNat = A at *
  generalize f.m * 2 ^ (f.e - k).toNat * 2 ^ (k + 16384).toNat = B at *
  congr 1
  unfold sg
  cases hd' : d.neg <;> cases hf' : f.neg <;> simp_all <;> omega
theorem inrB_canon {s : Bool} {n : Nat} {e : Int} (ho : n % 2 = 1) (hb : 4096 < bits n) : inrB (canon s n e).m (canon s n e).e = false := by
  unfold canon
  rw [if_neg (by intro h; rw [h] at ho; cases ho), oddp_odd ho, tz_odd ho]
  unfold inrB
  simp only [decide_eq_false_iff_not]
  omega
/-- nothing cancels out: the number d stands far above f, and above f's exponent -/
theorem sum_far {d f : Dy} (hd : d.ok) (hf : f.ok) (hd0 : d.m ≠ 0) (hf0 : f.m ≠ 0) (h1 : f.e < d.e) (h2 : 1 < topI d - topI f) (h3 : 4097 < topI d - f.e) : inrB (sumD d f).m (sumD d f).e = false := by
  have hde := ok_e hd
  have hfe := ok_e hf
  have od : d.m % 2 = 1 := by rcases hd with ⟨h, _⟩ | ⟨h, _⟩; exact absurd h hd0; exact h
  have of' : f.m % 2 = 1 := by rcases hf with ⟨h, _⟩ | ⟨h, _⟩; exact absurd h hf0; exact h
  unfold topI at h2 h3
  rw [if_neg hd0, if_neg hf0] at h2
  rw [if_neg hd0] at h3
  obtain ⟨j, hj⟩ : ∃ j : Nat, d.e = f.e + ((j + 1 : Nat) : Int) := ⟨(d.e - f.e).toNat - 1, by omega⟩
  have e1 : (d.e - f.e).toNat = j + 1 := by omega
  have e2 : (f.e - f.e).toNat = 0 := by omega
  have hbd := two_pow_le_of_bits hd0
  have hbf := lt_two_pow_bits f.m
  have hbp := bits_pos hd0
  have hA : 2 ^ (bits d.m - 1 + (j + 1)) ≤ d.m * 2 ^ (j + 1) := by rw [Nat.pow_add]; exact Nat.mul_le_mul_right _ hbd
  have hB : f.m < 2 ^ (bits d.m - 1 + (j + 1) - 1) := Nat.lt_of_lt_of_le hbf (Nat.pow_le_pow_right (by decide) (by omega))
  have hC : 2 ^ (bits d.m - 1 + (j + 1)) = 2 * 2 ^ (bits d.m - 1 + (j + 1) - 1) := by
    rw [← Nat.pow_succ']; congr 1
  have hev : d.m * 2 ^ (j + 1) % 2 = 0 := by rw [Nat.pow_succ, ← Nat.mul_assoc]; exact Nat.mul_mod_left _ _
  have hbig (n : Nat) (h : 2 ^ (bits d.m - 1 + (j + 1) - 1) ≤ n) : 4096 < bits n := by
    have := Nat.lt_of_lt_of_le (show 4096 < bits (2 ^ (bits d.m - 1 + (j + 1) - 1)) from by rw [bits_two_pow]; omega) (bits_mono h)
    exact this
  by_cases hs : d.neg = f.neg
  · rw [sum_same hfe.1 (by omega) (Int.le_refl _) hs, e1, e2, Nat.pow_zero, Nat.mul_one]
    exact inrB_canon (by omega) (hbig _ (by omega))
  · rw [sum_diff hfe.1 (by omega) (Int.le_refl _) hs (by rw [e1, e2, Nat.pow_zero, Nat.mul_one]; omega), e1, e2, Nat.pow_zero, Nat.mul_one]
    exact inrB_canon (by omega) (hbig _ (by omega))
/-- .. so it is where the tops lie far above the lower exponent -/
theorem sum_out {d f : Dy} (hd : d.ok) (hf : f.ok) (hd0 : d.m ≠ 0) (hf0 : f.m ≠ 0) (h1 : 4097 < max (topI d) (topI f) - min d.e f.e) (h2 : 1 < topI d - topI f ∨ 1 < topI f - topI d) : chk (sumD d f) = (.zero, 9) := by
  have bd : (bits d.m : Int) ≤ 4096 := by rcases hd with ⟨h, _⟩ | ⟨_, h, _⟩; exact absurd h hd0; omega
  have bf : (bits f.m : Int) ≤ 4096 := by rcases hf with ⟨h, _⟩ | ⟨_, h, _⟩; exact absurd h hf0; omega
  have td : topI d = bits d.m + d.e := by unfold topI; rw [if_neg hd0]
  have tf : topI f = bits f.m + f.e := by unfold topI; rw [if_neg hf0]
  have key : inrB (sumD d f).m (sumD d f).e = false := by
    rcases h2 with h | h
    · exact sum_far hd hf hd0 hf0 (by omega) h (by omega)
    · rw [sumD_comm]
      exact sum_far hf hd hf0 hd0 (by omega) h (by omega)
  unfold chk
  rw [key]
  rfl
end Go.Proofs.YtdlpiblgkpgplaaGreatDoor
end

section
namespace Go.Proofs.YtdlpiblgkpgplaaGreatDoor
open Go.RowKit

/-- the tops lie far above the lower exponent -/
def farB (d f : Dy) : Prop := 4097 < max (topI d) (topI f) - min d.e f.e ∧ (1 < topI d - topI f ∨ 1 < topI f - topI d)
instance (d f : Dy) : Decidable (farB d f) := by unfold farB; exact inferInstance
theorem topI_bounds {d : Dy} (h : d.ok) : -16384 ≤ topI d ∧ topI d ≤ 16384 := by
  unfold topI
  split
  · omega
  · next h0 => rcases h with ⟨h, _⟩ | ⟨_, h1, h2, h3, h4⟩; exact absurd h h0; omega
theorem near_len {d f : Dy} (hd : d.ok) (hf : f.ok) (hd0 : d.m ≠ 0) (hf0 : f.m ≠ 0) (h : ¬ farB d f) : bits (d.m * 2 ^ (d.e - min d.e f.e).toNat) ≤ 4098 ∧ bits (f.m * 2 ^ (f.e - min d.e f.e).toNat) ≤ 4098 := by
  have bd : (bits d.m : Int) ≤ 4096 := by rcases hd with ⟨h, _⟩ | ⟨_, h, _⟩; exact absurd h hd0; omega
  have bf : (bits f.m : Int) ≤ 4096 := by rcases hf with ⟨h, _⟩ | ⟨_, h, _⟩; exact absurd h hf0; omega
  have td : topI d = bits d.m + d.e := by unfold topI; rw [if_neg hd0]
  have tf : topI f = bits f.m + f.e := by unfold topI; rw [if_neg hf0]
  unfold farB at h
  rw [bits_mul_pow hd0, bits_mul_pow hf0]
  omega
set_option maxHeartbeats 2000000 in
theorem sum_farB (d f : Dy) (a b : Option Addr) (c k : Nat) (w : World) (hd : DyAt w d a c) (hf : DyAt w f b k) (hd0 : d.m ≠ 0) (hf0 : f.m ≠ 0) (hfar : farB d f) :
    Calls Tryz.prog 87 #[.agg #[.bool d.neg, .slice a (limbs d.m).length c, .int .i64 d.e], .agg #[.bool f.neg, .slice b (limbs f.m).length k, .int .i64 f.e]] w (DyE w (chk (sumD d f)).1 (chk (sumD d f)).2) := by
  rw [sum_out hd.1 hf.1 hd0 hf0 hfar.1 hfar.2]
  have td := topI_bounds hd.1
  have tf := topI_bounds hf.1
  have hed := ok_e hd.1
  have hef := ok_e hf.1
  have z1 := len_ne hd0
  have z2 := len_ne hf0
  obtain ⟨h1, h2⟩ := hfar
  go_enter Tryz.func87, Tryz.ntmps87
  go_wp2_with fail
  generalize hW : (((w.alloc _).alloc _).alloc _) = W at *
  have hk : Kp w W := hW ▸ (((Kp.refl w).alloc _).alloc _).alloc _
  have hd1 := (hd.kp hk).drew
  have hf1 := (hf.kp hk).drew
  have hS : W.cell? ⟨w.heap.size, 0, none⟩ = some (.bool d.neg) ∧ W.cell? ⟨w.heap.size, 1, none⟩ = some (.slice a (limbs d.m).length c) ∧ W.cell? ⟨w.heap.size, 2, none⟩ = some (.int .i64 d.e) ∧ W.cell? ⟨w.heap.size + 1, 0, none⟩ = some (.bool f.neg) ∧ W.cell? ⟨w.heap.size + 1, 1, none⟩ = some (.slice b (limbs f.m).length k) ∧ W.cell? ⟨w.heap.size + 1, 2, none⟩ = some (.int .i64 f.e) := by rw [← hW]; exact keep6 ((Kp.refl _).alloc _) (by simp)
  have hB : Box3 W (w.heap.size + 2) (.bool false) (.slice none 0 0) (.int .i64 0) := hW ▸ Box3.new3 _ _ _ _ _ _ _
  clear hW
  go_region_held3 (fun w' => w'.cell? ⟨w.heap.size, 0, none⟩ = some (.bool d.neg) ∧ w'.cell? ⟨w.heap.size, 1, none⟩ = some (.slice a (limbs d.m).length c) ∧ w'.cell? ⟨w.heap.size, 2, none⟩ = some (.int .i64 d.e) ∧ w'.cell? ⟨w.heap.size + 1, 0, none⟩ = some (.bool f.neg) ∧ w'.cell? ⟨w.heap.size + 1, 1, none⟩ = some (.slice b (limbs f.m).length k) ∧ w'.cell? ⟨w.heap.size + 1, 2, none⟩ = some (.int .i64 f.e)) (first | assumption | exact keep6 (by assumption) (by assumption))
    (first
      | (go_at_call_of 121 (Value.agg #[.bool d.neg, .slice a (limbs d.m).length c, .int .i64 d.e]); refine (Top_ok d a c _ hd1).mono ?_; rintro e w2 ⟨rfl, hk2⟩)
      | (go_at_call_of 121 (Value.agg #[.bool f.neg, .slice b (limbs f.m).length k, .int .i64 f.e]); refine (Top_ok f b k _ (hf1.kp (by assumption))).mono ?_; rintro e w3 ⟨rfl, hk3⟩))
  generalize topI d = x at *
  generalize topI f = y at *
  have e1 : IntKind.i64.wrap (max x y - min d.e f.e) = max x y - min d.e f.e := IntWalk.i64_in _ (by omega)
  have e2 : IntKind.i64.wrap (x - y) = x - y := IntWalk.i64_in _ (by omega)
  have e3 : IntKind.i64.wrap (y - x) = y - x := IntWalk.i64_in _ (by omega)
  have hk4 := (hk.drew.trans hk2).trans hk3
  obtain ⟨q0, q1, q2, f0, f1, f2⟩ := ((hB.kp (Kp.refl W).drew).kp hk2).kp hk3
  clear hS hB hd1 hf1
  by_cases h3 : 1 < x - y
  · go_wp2_with fail
    have hst := stored q0 q1 q2 (fun _ h => by cases h) (fun _ h => by cases h) (fun _ h => by cases h) (.bool false) (.slice none 0 0) (.int .i64 0)
    generalize (((w3.setCell _ _).setCell _ _).setCell _ _) = W2 at hst ⊢
    obtain ⟨s0, s1, s2, _, s4, s5, _, _⟩ := hst
    refine bodyPost_ret (v := .tuple #[.agg #[.bool false, .slice none 0 0, .int .i64 0], .int .i64 9]) (by simp [results, Tryz.results87, go_sem, s0, s1, s2]) rfl ?_
    exact dyE_zero rfl (s5 _ hk4 (by omega))
  · have h4 : 1 < y - x := by omega
    go_wp2_with fail
    have hst := stored q0 q1 q2 (fun _ h => by cases h) (fun _ h => by cases h) (fun _ h => by cases h) (.bool false) (.slice none 0 0) (.int .i64 0)
    generalize (((w3.setCell _ _).setCell _ _).setCell _ _) = W2 at hst ⊢
    obtain ⟨s0, s1, s2, _, s4, s5, _, _⟩ := hst
    refine bodyPost_ret (v := .tuple #[.agg #[.bool false, .slice none 0 0, .int .i64 0], .int .i64 9]) (by simp [results, Tryz.results87, go_sem, s0, s1, s2]) rfl ?_
    exact dyE_zero rfl (s5 _ hk4 (by omega))
end Go.Proofs.YtdlpiblgkpgplaaGreatDoor
end
