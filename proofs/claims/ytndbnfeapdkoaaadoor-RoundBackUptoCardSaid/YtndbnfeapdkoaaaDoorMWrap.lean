/-
  Walks: round.Down, Up, AddDown, AddUp, MulDown, MulUp, DivDown, DivUp, SqrtDown, SqrtUp, each from a contract of the inner function.
  Plain law: the exact sum of two numbers, as a canonical form; where the tops lie far above the lower exponent nothing cancels out, and the sum is out of range.
-/
import Derived.Test.YtndbnfeapdkoaaaDoorMRoF
import Derived.Test.YtndbnfeapdkoaaaDoorMIvC
import Derived.Test.YtndbnfeapdkoaaaDoorMPub
section
namespace Go.Proofs.YtndbnfeapdkoaaaDoor
open Go.RowKit

theorem rDown_of (x : RD) (p : Int) (D : Dy) (f : Int) (w : World) (hin : ∀ W, Kp w W → Calls Tryd.prog 69 #[.agg #[.bool x.neg, .slice x.a x.xs.length x.c, .int .i64 x.e], .int .i64 p, .bool false] W (NumE W D f)) :
    Calls Tryd.prog 38 #[.agg #[.bool x.neg, .slice x.a x.xs.length x.c, .int .i64 x.e], .int .i64 p] w (NumE w D f) := by
  have Ha := Lib.hid hin
  clear hin
  go_enter Tryd.func38, Tryd.ntmps38
  go_wp2_with fail
  generalize hW : ((w.alloc _).alloc _) = W at *
  have hk : Kp w W := hW ▸ ((Kp.refl w).alloc _).alloc _
  have hB : Box3 W (w.heap.size + 1) (.bool false) (.slice none 0 0) (.int .i64 0) := hW ▸ Box3.new2 _ _ _ _ _ _
  clear hW
  refine (Ha.out _ hk).mono ?_
  rintro e w5 ⟨z, rfl, hzr, hzd, hzv, hk5⟩
  obtain ⟨q0, q1, q2, f0, f1, f2⟩ := hB.kp hk5
  have hk6 := hk.trans hk5
  clear hB hk5
  have hst := stored q0 q1 q2 (fun _ h => by cases h) (fun _ h => by cases h) (fun _ h => by cases h) (.bool z.neg) (.slice z.a z.xs.length z.c) (.int .i64 z.e)
  go_wp2_with fail
  generalize (((w5.setCell _ _).setCell _ _).setCell _ _) = W2 at hst ⊢
  obtain ⟨s0, s1, s2, _, s4, s5, _, _⟩ := hst
  refine bodyPost_ret (v := .tuple #[.agg #[.bool z.neg, .slice z.a z.xs.length z.c, .int .i64 z.e], .int .i64 f]) (by simp [results, Tryd.results38, go_sem, s0, s1, s2]) rfl ?_
  exact ⟨z, rfl, ⟨s4 _ _ hzr.1, hzr.2⟩, hzd, hzv, s5 _ hk6 (by omega)⟩
theorem rUp_of (x : RD) (p : Int) (D : Dy) (f : Int) (w : World) (hin : ∀ W, Kp w W → Calls Tryd.prog 69 #[.agg #[.bool x.neg, .slice x.a x.xs.length x.c, .int .i64 x.e], .int .i64 p, .bool true] W (NumE W D f)) :
    Calls Tryd.prog 39 #[.agg #[.bool x.neg, .slice x.a x.xs.length x.c, .int .i64 x.e], .int .i64 p] w (NumE w D f) := by
  have Ha := Lib.hid hin
  clear hin
  go_enter Tryd.func39, Tryd.ntmps39
  go_wp2_with fail
  generalize hW : ((w.alloc _).alloc _) = W at *
  have hk : Kp w W := hW ▸ ((Kp.refl w).alloc _).alloc _
  have hB : Box3 W (w.heap.size + 1) (.bool false) (.slice none 0 0) (.int .i64 0) := hW ▸ Box3.new2 _ _ _ _ _ _
  clear hW
  refine (Ha.out _ hk).mono ?_
  rintro e w5 ⟨z, rfl, hzr, hzd, hzv, hk5⟩
  obtain ⟨q0, q1, q2, f0, f1, f2⟩ := hB.kp hk5
  have hk6 := hk.trans hk5
  clear hB hk5
  have hst := stored q0 q1 q2 (fun _ h => by cases h) (fun _ h => by cases h) (fun _ h => by cases h) (.bool z.neg) (.slice z.a z.xs.length z.c) (.int .i64 z.e)
  go_wp2_with fail
  generalize (((w5.setCell _ _).setCell _ _).setCell _ _) = W2 at hst ⊢
  obtain ⟨s0, s1, s2, _, s4, s5, _, _⟩ := hst
  refine bodyPost_ret (v := .tuple #[.agg #[.bool z.neg, .slice z.a z.xs.length z.c, .int .i64 z.e], .int .i64 f]) (by simp [results, Tryd.results39, go_sem, s0, s1, s2]) rfl ?_
  exact ⟨z, rfl, ⟨s4 _ _ hzr.1, hzr.2⟩, hzd, hzv, s5 _ hk6 (by omega)⟩
theorem rSqrtDown_of (x : RD) (p : Int) (D : Dy) (f : Int) (w : World) (hin : ∀ W, Kp w W → Calls Tryd.prog 35 #[.agg #[.bool x.neg, .slice x.a x.xs.length x.c, .int .i64 x.e], .int .i64 p, .bool false] W (NumE W D f)) :
    Calls Tryd.prog 15 #[.agg #[.bool x.neg, .slice x.a x.xs.length x.c, .int .i64 x.e], .int .i64 p] w (NumE w D f) := by
  have Ha := Lib.hid hin
  clear hin
  go_enter Tryd.func15, Tryd.ntmps15
  go_wp2_with fail
  generalize hW : ((w.alloc _).alloc _) = W at *
  have hk : Kp w W := hW ▸ ((Kp.refl w).alloc _).alloc _
  have hB : Box3 W (w.heap.size + 1) (.bool false) (.slice none 0 0) (.int .i64 0) := hW ▸ Box3.new2 _ _ _ _ _ _
  clear hW
  refine (Ha.out _ hk).mono ?_
  rintro e w5 ⟨z, rfl, hzr, hzd, hzv, hk5⟩
  obtain ⟨q0, q1, q2, f0, f1, f2⟩ := hB.kp hk5
  have hk6 := hk.trans hk5
  clear hB hk5
  have hst := stored q0 q1 q2 (fun _ h => by cases h) (fun _ h => by cases h) (fun _ h => by cases h) (.bool z.neg) (.slice z.a z.xs.length z.c) (.int .i64 z.e)
  go_wp2_with fail
  generalize (((w5.setCell _ _).setCell _ _).setCell _ _) = W2 at hst ⊢
  obtain ⟨s0, s1, s2, _, s4, s5, _, _⟩ := hst
  refine bodyPost_ret (v := .tuple #[.agg #[.bool z.neg, .slice z.a z.xs.length z.c, .int .i64 z.e], .int .i64 f]) (by simp [results, Tryd.results15, go_sem, s0, s1, s2]) rfl ?_
  exact ⟨z, rfl, ⟨s4 _ _ hzr.1, hzr.2⟩, hzd, hzv, s5 _ hk6 (by omega)⟩
theorem rSqrtUp_of (x : RD) (p : Int) (D : Dy) (f : Int) (w : World) (hin : ∀ W, Kp w W → Calls Tryd.prog 35 #[.agg #[.bool x.neg, .slice x.a x.xs.length x.c, .int .i64 x.e], .int .i64 p, .bool true] W (NumE W D f)) :
    Calls Tryd.prog 16 #[.agg #[.bool x.neg, .slice x.a x.xs.length x.c, .int .i64 x.e], .int .i64 p] w (NumE w D f) := by
  have Ha := Lib.hid hin
  clear hin
  go_enter Tryd.func16, Tryd.ntmps16
  go_wp2_with fail
  generalize hW : ((w.alloc _).alloc _) = W at *
  have hk : Kp w W := hW ▸ ((Kp.refl w).alloc _).alloc _
  have hB : Box3 W (w.heap.size + 1) (.bool false) (.slice none 0 0) (.int .i64 0) := hW ▸ Box3.new2 _ _ _ _ _ _
  clear hW
  refine (Ha.out _ hk).mono ?_
  rintro e w5 ⟨z, rfl, hzr, hzd, hzv, hk5⟩
  obtain ⟨q0, q1, q2, f0, f1, f2⟩ := hB.kp hk5
  have hk6 := hk.trans hk5
  clear hB hk5
  have hst := stored q0 q1 q2 (fun _ h => by cases h) (fun _ h => by cases h) (fun _ h => by cases h) (.bool z.neg) (.slice z.a z.xs.length z.c) (.int .i64 z.e)
  go_wp2_with fail
  generalize (((w5.setCell _ _).setCell _ _).setCell _ _) = W2 at hst ⊢
  obtain ⟨s0, s1, s2, _, s4, s5, _, _⟩ := hst
  refine bodyPost_ret (v := .tuple #[.agg #[.bool z.neg, .slice z.a z.xs.length z.c, .int .i64 z.e], .int .i64 f]) (by simp [results, Tryd.results16, go_sem, s0, s1, s2]) rfl ?_
  exact ⟨z, rfl, ⟨s4 _ _ hzr.1, hzr.2⟩, hzd, hzv, s5 _ hk6 (by omega)⟩
theorem rDivDown_of (x y : RD) (p : Int) (D : Dy) (f : Int) (w : World) (hin : ∀ W, Kp w W → Calls Tryd.prog 21 #[.agg #[.bool x.neg, .slice x.a x.xs.length x.c, .int .i64 x.e], .agg #[.bool y.neg, .slice y.a y.xs.length y.c, .int .i64 y.e], .int .i64 p, .bool false] W (NumE W D f)) :
    Calls Tryd.prog 6 #[.agg #[.bool x.neg, .slice x.a x.xs.length x.c, .int .i64 x.e], .agg #[.bool y.neg, .slice y.a y.xs.length y.c, .int .i64 y.e], .int .i64 p] w (NumE w D f) := by
  have Ha := Lib.hid hin
  clear hin
  go_enter Tryd.func6, Tryd.ntmps6
  go_wp2_with fail
  generalize hW : (((w.alloc _).alloc _).alloc _) = W at *
  have hk : Kp w W := hW ▸ (((Kp.refl w).alloc _).alloc _).alloc _
  have hB : Box3 W (w.heap.size + 2) (.bool false) (.slice none 0 0) (.int .i64 0) := hW ▸ Box3.new3 _ _ _ _ _ _ _
  clear hW
  refine (Ha.out _ hk).mono ?_
  rintro e w5 ⟨z, rfl, hzr, hzd, hzv, hk5⟩
  obtain ⟨q0, q1, q2, f0, f1, f2⟩ := hB.kp hk5
  have hk6 := hk.trans hk5
  clear hB hk5
  have hst := stored q0 q1 q2 (fun _ h => by cases h) (fun _ h => by cases h) (fun _ h => by cases h) (.bool z.neg) (.slice z.a z.xs.length z.c) (.int .i64 z.e)
  go_wp2_with fail
  generalize (((w5.setCell _ _).setCell _ _).setCell _ _) = W2 at hst ⊢
  obtain ⟨s0, s1, s2, _, s4, s5, _, _⟩ := hst
  refine bodyPost_ret (v := .tuple #[.agg #[.bool z.neg, .slice z.a z.xs.length z.c, .int .i64 z.e], .int .i64 f]) (by simp [results, Tryd.results6, go_sem, s0, s1, s2]) rfl ?_
  exact ⟨z, rfl, ⟨s4 _ _ hzr.1, hzr.2⟩, hzd, hzv, s5 _ hk6 (by omega)⟩
theorem rDivUp_of (x y : RD) (p : Int) (D : Dy) (f : Int) (w : World) (hin : ∀ W, Kp w W → Calls Tryd.prog 21 #[.agg #[.bool x.neg, .slice x.a x.xs.length x.c, .int .i64 x.e], .agg #[.bool y.neg, .slice y.a y.xs.length y.c, .int .i64 y.e], .int .i64 p, .bool true] W (NumE W D f)) :
    Calls Tryd.prog 8 #[.agg #[.bool x.neg, .slice x.a x.xs.length x.c, .int .i64 x.e], .agg #[.bool y.neg, .slice y.a y.xs.length y.c, .int .i64 y.e], .int .i64 p] w (NumE w D f) := by
  have Ha := Lib.hid hin
  clear hin
  go_enter Tryd.func8, Tryd.ntmps8
  go_wp2_with fail
  generalize hW : (((w.alloc _).alloc _).alloc _) = W at *
  have hk : Kp w W := hW ▸ (((Kp.refl w).alloc _).alloc _).alloc _
  have hB : Box3 W (w.heap.size + 2) (.bool false) (.slice none 0 0) (.int .i64 0) := hW ▸ Box3.new3 _ _ _ _ _ _ _
  clear hW
  refine (Ha.out _ hk).mono ?_
  rintro e w5 ⟨z, rfl, hzr, hzd, hzv, hk5⟩
  obtain ⟨q0, q1, q2, f0, f1, f2⟩ := hB.kp hk5
  have hk6 := hk.trans hk5
  clear hB hk5
  have hst := stored q0 q1 q2 (fun _ h => by cases h) (fun _ h => by cases h) (fun _ h => by cases h) (.bool z.neg) (.slice z.a z.xs.length z.c) (.int .i64 z.e)
  go_wp2_with fail
  generalize (((w5.setCell _ _).setCell _ _).setCell _ _) = W2 at hst ⊢
  obtain ⟨s0, s1, s2, _, s4, s5, _, _⟩ := hst
  refine bodyPost_ret (v := .tuple #[.agg #[.bool z.neg, .slice z.a z.xs.length z.c, .int .i64 z.e], .int .i64 f]) (by simp [results, Tryd.results8, go_sem, s0, s1, s2]) rfl ?_
  exact ⟨z, rfl, ⟨s4 _ _ hzr.1, hzr.2⟩, hzd, hzv, s5 _ hk6 (by omega)⟩
theorem Down_rd (x : RD) (p : Int) (w : World) (hx : x.rd w) (hT : Tab w) : Calls Tryd.prog 38 #[.agg #[.bool x.neg, .slice x.a x.xs.length x.c, .int .i64 x.e], .int .i64 p] w (NumE w (rndB x p false).1 (rndB x p false).2) :=
  rDown_of x p _ _ w fun W k => Round_any x p false W (hx.kp k) (hT.kp k)
theorem Up_rd (x : RD) (p : Int) (w : World) (hx : x.rd w) (hT : Tab w) : Calls Tryd.prog 39 #[.agg #[.bool x.neg, .slice x.a x.xs.length x.c, .int .i64 x.e], .int .i64 p] w (NumE w (rndB x p true).1 (rndB x p true).2) :=
  rUp_of x p _ _ w fun W k => Round_any x p true W (hx.kp k) (hT.kp k)
end Go.Proofs.YtndbnfeapdkoaaaDoor
end

section
namespace Go.Proofs.YtndbnfeapdkoaaaDoor

/-- the canonical number of the value v steps -/
def ofI (v : Int) : Dy := canon (decide (v < 0)) v.natAbs (-16384)
theorem ofI_iv (v : Int) : (ofI v).iv = v := by
  unfold ofI
  rw [canon_iv _ _ _ (Int.le_refl _)]
  show sg _ (v.natAbs * 2 ^ 0) = v
  rw [Nat.pow_zero, Nat.mul_one]
  unfold sg
  by_cases h : v < 0
  · rw [if_pos (by simpa using h)]; omega
  · rw [if_neg (by simpa using h)]; omega
/-- any canonical form from the lowest exponent on is the canonical number of its value -/
theorem canon_ofI (s : Bool) (n : Nat) (e : Int) (h : -16384 ≤ e) : canon s n e = ofI (sg s (n * 2 ^ (e + 16384).toNat)) := by
  by_cases h0 : n = 0
  · subst h0
    rw [canon_zero, Nat.zero_mul, sg_zero]
    rfl
  · have hp : 0 < n * 2 ^ (e + 16384).toNat := Nat.mul_pos (by omega) (Nat.pow_pos (by decide))
    have e1 : canon s n e = canon s (n * 2 ^ (e + 16384).toNat) (-16384) := by
      rw [canon_shift]; congr 1; omega
    rw [e1]
    generalize n * 2 ^ (e + 16384).toNat = V at *
    unfold ofI sg
    cases s
    · have h1 : decide ((V : Int) < 0) = false := by simp
      simp only [Bool.false_eq_true, if_false, h1, Int.natAbs_natCast]
    · have h1 : decide (-(V : Int) < 0) = true := by simp; omega
      simp only [if_true, h1, Int.natAbs_neg, Int.natAbs_natCast]
theorem ofI_of_ok {d : Dy} (h : d.ok) : ofI d.iv = d := by
  have e := canon_ofI d.neg d.m d.e (ok_e h).1
  rw [canon_ok h] at e
  exact e.symm
/-- the exact sum, in range or not -/
def sumD (d f : Dy) : Dy := ofI (d.iv + f.iv)
theorem sumD_iv (d f : Dy) : (sumD d f).iv = d.iv + f.iv := ofI_iv _
theorem sumD_zero {d : Dy} (h : d.ok) : sumD .zero d = d := by
  unfold sumD; rw [Dy.iv_zero, Int.zero_add]; exact ofI_of_ok h
theorem sumD_zero' {d : Dy} (h : d.ok) : sumD d .zero = d := by
  unfold sumD; rw [Dy.iv_zero, Int.add_zero]; exact ofI_of_ok h
theorem sumD_comm (d f : Dy) : sumD d f = sumD f d := by unfold sumD; rw [Int.add_comm]
/-- numbers over a common exponent -/
theorem iv_at {d : Dy} {k : Int} (h0 : -16384 ≤ k) (hk : k ≤ d.e) : d.iv = sg d.neg (d.m * 2 ^ (d.e - k).toNat * 2 ^ (k + 16384).toNat) := by
  unfold Dy.iv
  rw [Nat.mul_assoc, ← Nat.pow_add]
  congr 3; omega
theorem sum_same {d f : Dy} {k : Int} (h0 : -16384 ≤ k) (hd : k ≤ d.e) (hf : k ≤ f.e) (hs : d.neg = f.neg) : sumD d f = canon d.neg (d.m * 2 ^ (d.e - k).toNat + f.m * 2 ^ (f.e - k).toNat) k := by
  rw [canon_ofI _ _ _ h0]
  unfold sumD
  rw [iv_at h0 hd, iv_at h0 hf, ← hs, Nat.add_mul]
  congr 1
  unfold sg
  split <;> push_cast <;> omega
theorem sum_diff {d f : Dy} {k : Int} (h0 : -16384 ≤ k) (hd : k ≤ d.e) (hf : k ≤ f.e) (hs : d.neg ≠ f.neg) (hle : f.m * 2 ^ (f.e - k).toNat ≤ d.m * 2 ^ (d.e - k).toNat) : sumD d f = canon d.neg (d.m * 2 ^ (d.e - k).toNat - f.m * 2 ^ (f.e - k).toNat) k := by
  rw [canon_ofI _ _ _ h0]
  unfold sumD
  rw [iv_at h0 hd, iv_at h0 hf, Nat.sub_mul]
  have hle2 := Nat.mul_le_mul_right (2 ^ (k + 16384).toNat) hle
  generalize d.m * 2 ^ (d.e - k).toNat * 2 ^ (k + 16384).toNat = A at *
  generalize f.m * 2 ^ (f.e - k).toNat * 2 ^ (k + 16384).toNat = B at *
  congr 1
  unfold sg
  cases hd' : d.neg <;> cases hf' : f.neg <;> simp_all <;> omega
theorem inrB_canon {s : Bool} {n : Nat} {e : Int} (ho : n % 2 = 1) (hb : 4096 < bits n) : inrB (canon s n e).m (canon s n e).e = false := by
  unfold canon
  rw [if_neg (by intro h; rw [h] at ho; cases ho), oddp_odd ho, tz_odd ho]
  unfold inrB
  simp only [decide_eq_false_iff_not]
  omega
/-- nothing cancels out: the number d stands far above f, and above f's exponent -/
theorem sum_far {d f : Dy} (hd : d.ok) (hf : f.ok) (hd0 : d.m ≠ 0) (hf0 : f.m ≠ 0) (h1 : f.e < d.e) (h2 : 1 < topI d - topI f) (h3 : 4097 < topI d - f.e) : inrB (sumD d f).m (sumD d f).e = false := by
  have hde := ok_e hd
  have hfe := ok_e hf
  have od : d.m % 2 = 1 := by rcases hd with ⟨h, _⟩ | ⟨h, _⟩; exact absurd h hd0; exact h
  have of' : f.m % 2 = 1 := by rcases hf with ⟨h, _⟩ | ⟨h, _⟩; exact absurd h hf0; exact h
  unfold topI at h2 h3
  rw [if_neg hd0, if_neg hf0] at h2
  rw [if_neg hd0] at h3
  obtain ⟨j, hj⟩ : ∃ j : Nat, d.e = f.e + ((j + 1 : Nat) : Int) := ⟨(d.e - f.e).toNat - 1, by omega⟩
  have e1 : (d.e - f.e).toNat = j + 1 := by omega
  have e2 : (f.e - f.e).toNat = 0 := by omega
  have hbd := two_pow_le_of_bits hd0
  have hbf := lt_two_pow_bits f.m
  have hbp := bits_pos hd0
  have hA : 2 ^ (bits d.m - 1 + (j + 1)) ≤ d.m * 2 ^ (j + 1) := by rw [Nat.pow_add]; exact Nat.mul_le_mul_right _ hbd
  have hB : f.m < 2 ^ (bits d.m - 1 + (j + 1) - 1) := Nat.lt_of_lt_of_le hbf (Nat.pow_le_pow_right (by decide) (by omega))
  have hC : 2 ^ (bits d.m - 1 + (j + 1)) = 2 * 2 ^ (bits d.m - 1 + (j + 1) - 1) := by
    rw [← Nat.pow_succ']; congr 1
  have hev : d.m * 2 ^ (j + 1) % 2 = 0 := by rw [Nat.pow_succ, ← Nat.mul_assoc]; exact Nat.mul_mod_left _ _
  have hbig (n : Nat) (h : 2 ^ (bits d.m - 1 + (j + 1) - 1) ≤ n) : 4096 < bits n := by
    have := Nat.lt_of_lt_of_le (show 4096 < bits (2 ^ (bits d.m - 1 + (j + 1) - 1)) from by rw [bits_two_pow]; omega) (bits_mono h)
    exact this
  by_cases hs : d.neg = f.neg
  · rw [sum_same hfe.1 (by omega) (Int.le_refl _) hs, e1, e2, Nat.pow_zero, Nat.mul_one]
    exact inrB_canon (by omega) (hbig _ (by omega))
  · rw [sum_diff hfe.1 (by omega) (Int.le_refl _) hs (by rw [e1, e2, Nat.pow_zero, Nat.mul_one]; omega), e1, e2, Nat.pow_zero, Nat.mul_one]
    exact inrB_canon (by omega) (hbig _ (by omega))
/-- .. so it is where the tops lie far above the lower exponent -/
theorem sum_out {d f : Dy} (hd : d.ok) (hf : f.ok) (hd0 : d.m ≠ 0) (hf0 : f.m ≠ 0) (h1 : 4097 < max (topI d) (topI f) - min d.e f.e) (h2 : 1 < topI d - topI f ∨ 1 < topI f - topI d) : chk (sumD d f) = (.zero, 9) := by
  have bd : (bits d.m : Int) ≤ 4096 := by rcases hd with ⟨h, _⟩ | ⟨_, h, _⟩; exact absurd h hd0; omega
  have bf : (bits f.m : Int) ≤ 4096 := by rcases hf with ⟨h, _⟩ | ⟨_, h, _⟩; exact absurd h hf0; omega
  have td : topI d = bits d.m + d.e := by unfold topI; rw [if_neg hd0]
  have tf : topI f = bits f.m + f.e := by unfold topI; rw [if_neg hf0]
  have key : inrB (sumD d f).m (sumD d f).e = false := by
    rcases h2 with h | h
    · exact sum_far hd hf hd0 hf0 (by omega) h (by omega)
    · rw [sumD_comm]
      exact sum_far hf hd hf0 hd0 (by omega) h (by omega)
  unfold chk
  rw [key]
  rfl
end Go.Proofs.YtndbnfeapdkoaaaDoor
end
