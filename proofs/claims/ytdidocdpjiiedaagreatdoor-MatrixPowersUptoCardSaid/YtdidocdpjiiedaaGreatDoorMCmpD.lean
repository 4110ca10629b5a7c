/-
  Walks: dyadic.shifted, compare, Cmp, of valid numbers.
  Walks: dyadic.Cmp, of valid numbers.
  Numbers and intervals as they come, valid or not; dyadic.Valid, Cmp of these.
  Walks: interval.Valid.
  Walks: interval.Inside, Interior, Equal, of valid intervals other than All.
  Walks: slices.IndexFunc, ContainsFunc at []api.Dyadic.
  Walks: interval.known.
  Walks: interval.less, more, known, Whole.
  Walks: interval.Hull, Meet, of valid intervals other than All.
-/
import Derived.Test.YtdidocdpjiiedaaGreatDoorMDyA
import Derived.Test.YtdidocdpjiiedaaGreatDoorMNum
section
namespace Go.Proofs.YtdidocdpjiiedaaGreatDoor
open Go.RowKit

theorem keep3 {w w' : World} (k : Kp w w') {p0 p1 p2 : Addr} {v0 v1 v2 : Value} (h : w.cell? p0 = some v0 ∧ w.cell? p1 = some v1 ∧ w.cell? p2 = some v2) : w'.cell? p0 = some v0 ∧ w'.cell? p1 = some v1 ∧ w'.cell? p2 = some v2 :=
  let ⟨h0, h1, h2⟩ := h
  ⟨k.cell h0, k.cell h1, k.cell h2⟩
theorem keep6 {w w' : World} (k : Kp w w') {p0 p1 p2 p3 p4 p5 : Addr} {v0 v1 v2 v3 v4 v5 : Value} (h : w.cell? p0 = some v0 ∧ w.cell? p1 = some v1 ∧ w.cell? p2 = some v2 ∧ w.cell? p3 = some v3 ∧ w.cell? p4 = some v4 ∧ w.cell? p5 = some v5) : w'.cell? p0 = some v0 ∧ w'.cell? p1 = some v1 ∧ w'.cell? p2 = some v2 ∧ w'.cell? p3 = some v3 ∧ w'.cell? p4 = some v4 ∧ w'.cell? p5 = some v5 :=
  let ⟨h0, h1, h2, h3, h4, h5⟩ := h
  ⟨k.cell h0, k.cell h1, k.cell h2, k.cell h3, k.cell h4, k.cell h5⟩
set_option maxHeartbeats 2000000 in
theorem shifted_ok (d : Dy) (a : Option Addr) (c : Nat) (n : Int) (w : World) (h : DyAt w d a c) (h0 : 0 ≤ n) (hn : n ≤ 65536) (hv : (limbs (d.m * 2 ^ n.toNat)).length ≤ 256) :
    Calls Tryz.prog 137 #[.slice a (limbs d.m).length c, .int .i64 n] w (Shows w (limbs (d.m * 2 ^ n.toNat))) := by
  have H := Shl_any a (limbs d.m) c n w h.2.1 (by have := ok_len h.1; omega) h.2.2.1 h.2.2.2 h0 hn (by rw [val_limbs]; exact hv)
  rw [val_limbs] at H
  have Hs := Lib.hid H
  clear H
  go_enter Tryz.func137, Tryz.ntmps137
  go_wp2_with fail
  refine Hs.out.mono ?_
  rintro e w2 ⟨a2, c2, rfl, h1, h2, h3, h4⟩
  go_wp2_with fail
  go_ret
  exact ⟨a2, c2, rfl, h3, h1, h2, h4⟩

theorem av_bits {d : Dy} (h : d.ok) (h0 : d.m ≠ 0) : (bits d.av : Int) = topI d + 16384 := by
  have he := ok_e h
  unfold Dy.av topI
  rw [bits_mul_pow h0, if_neg h0]; omega
theorem av_lt {d f : Dy} (hd : d.ok) (hf : f.ok) (hd0 : d.m ≠ 0) (hf0 : f.m ≠ 0) (h : topI d < topI f) : d.av < f.av := by
  have h1 := av_bits hd hd0
  have h2 := av_bits hf hf0
  have h3 : bits d.av < bits f.av := by omega
  apply Classical.byContradiction; intro hn
  have := bits_mono (show f.av ≤ d.av by omega)
  omega
theorem av_shift {d : Dy} (k : Int) (h0 : -16384 ≤ k) (hk : k ≤ d.e) : d.av = d.m * 2 ^ (d.e - k).toNat * 2 ^ (k + 16384).toNat := by
  unfold Dy.av
  rw [Nat.mul_assoc, ← Nat.pow_add]; congr 2; omega
theorem cmpN_mul {m n p : Nat} (hp : 0 < p) : cmpN (m * p) (n * p) = cmpN m n := by
  unfold cmpN
  simp only [Nat.mul_lt_mul_right hp, Nat.mul_left_inj (Nat.ne_of_gt hp)]

set_option maxHeartbeats 2000000 in
theorem compare_ok (d f : Dy) (a b : Option Addr) (c k : Nat) (w : World) (hd : DyAt w d a c) (hf : DyAt w f b k) (hd0 : d.m ≠ 0) (hf0 : f.m ≠ 0) :
    Calls Tryz.prog 86 #[.agg #[.bool d.neg, .slice a (limbs d.m).length c, .int .i64 d.e], .agg #[.bool f.neg, .slice b (limbs f.m).length k, .int .i64 f.e]] w fun e w' => e = .returned (.int .i64 (cmpN d.av f.av)) ∧ Kp w w' := by
  go_enter Tryz.func86, Tryz.ntmps86
  go_wp2_with fail
  generalize hW : ((w.alloc _).alloc _) = W at *
  have hk : Kp w W := hW ▸ ((Kp.refl w).alloc _).alloc _
  have hd1 := (hd.kp hk).drew
  have hf1 := (hf.kp hk).drew
  have hS : W.cell? ⟨w.heap.size, 0, none⟩ = some (.bool d.neg) ∧ W.cell? ⟨w.heap.size, 1, none⟩ = some (.slice a (limbs d.m).length c) ∧ W.cell? ⟨w.heap.size, 2, none⟩ = some (.int .i64 d.e) ∧ W.cell? ⟨w.heap.size + 1, 0, none⟩ = some (.bool f.neg) ∧ W.cell? ⟨w.heap.size + 1, 1, none⟩ = some (.slice b (limbs f.m).length k) ∧ W.cell? ⟨w.heap.size + 1, 2, none⟩ = some (.int .i64 f.e) := by rw [← hW]; simp
  clear hW
  go_region_held3 (fun w' => w'.cell? ⟨w.heap.size, 0, none⟩ = some (.bool d.neg) ∧ w'.cell? ⟨w.heap.size, 1, none⟩ = some (.slice a (limbs d.m).length c) ∧ w'.cell? ⟨w.heap.size, 2, none⟩ = some (.int .i64 d.e) ∧ w'.cell? ⟨w.heap.size + 1, 0, none⟩ = some (.bool f.neg) ∧ w'.cell? ⟨w.heap.size + 1, 1, none⟩ = some (.slice b (limbs f.m).length k) ∧ w'.cell? ⟨w.heap.size + 1, 2, none⟩ = some (.int .i64 f.e)) (first | assumption | exact keep6 (by assumption) (by assumption))
    (first
      | (go_at_call_of 135 (Value.agg #[.bool d.neg, .slice a (limbs d.m).length c, .int .i64 d.e]); refine (Top_ok d a c _ hd1).mono ?_; rintro e w2 ⟨rfl, hk2⟩)
      | (go_at_call_of 135 (Value.agg #[.bool f.neg, .slice b (limbs f.m).length k, .int .i64 f.e]); refine (Top_ok f b k _ (hf1.kp (by assumption))).mono ?_; rintro e w3 ⟨rfl, hk3⟩))
  rcases Int.lt_trichotomy (topI d) (topI f) with ht | ht | ht
  · have H := Lib.hid (cmpN_lt (av_lt hd.1 hf.1 hd0 hf0 ht)).symm
    go_wp2_with fail
    go_ret
    exact ⟨ret_int H.out, (hk.drew.trans hk2).trans hk3⟩
  · have hE1 : min d.e f.e ≤ d.e := Int.min_le_left _ _
    have hE2 : min d.e f.e ≤ f.e := Int.min_le_right _ _
    have hE3 : min d.e f.e = d.e ∨ min d.e f.e = f.e := by omega
    have hed := ok_e hd.1
    have hef := ok_e hf.1
    have bd := av_bits hd.1 hd0
    have bf := av_bits hf.1 hf0
    have hfin : cmpN (d.m * 2 ^ (d.e - min d.e f.e).toNat) (f.m * 2 ^ (f.e - min d.e f.e).toNat) = cmpN d.av f.av := by
      rw [av_shift (d := d) (min d.e f.e) (by omega) hE1, av_shift (d := f) (min d.e f.e) (by omega) hE2, cmpN_mul (two_pow_pos _)]
    have hl1 : (limbs (d.m * 2 ^ (d.e - min d.e f.e).toNat)).length ≤ 256 := by
      apply limbs_len_bits
      rw [bits_mul_pow hd0]
      have hd4 : bits d.m ≤ 4096 := by rcases hd.1 with ⟨h, _⟩ | h <;> omega
      have hf4 : bits f.m ≤ 4096 := by rcases hf.1 with ⟨h, _⟩ | h <;> omega
      unfold topI at ht
      rw [if_neg hd0, if_neg hf0] at ht
      omega
    have hl2 : (limbs (f.m * 2 ^ (f.e - min d.e f.e).toNat)).length ≤ 256 := by
      apply limbs_len_bits
      rw [bits_mul_pow hf0]
      have hd4 : bits d.m ≤ 4096 := by rcases hd.1 with ⟨h, _⟩ | h <;> omega
      have hf4 : bits f.m ≤ 4096 := by rcases hf.1 with ⟨h, _⟩ | h <;> omega
      unfold topI at ht
      rw [if_neg hd0, if_neg hf0] at ht
      omega
    have Hfin := Lib.hid hfin
    have h1 : ¬ topI d < topI f := by omega
    have h2 : ¬ topI f < topI d := by omega
    clear ht hfin bd bf
    have hk4 := (hk.drew.trans hk2).trans hk3
    have hS3 := keep6 hk3 (keep6 hk2 hS)
    clear hS
    go_wp2_with fail
    generalize min d.e f.e = E at *
    have Hl1 := Lib.hid hl1
    have Hl2 := Lib.hid hl2
    have e1 : IntKind.i64.wrap (d.e - E) = d.e - E := IntWalk.i64_in _ (by omega)
    have e2 : IntKind.i64.wrap (f.e - E) = f.e - E := IntWalk.i64_in _ (by omega)
    have hd3 := (hd.kp hk4).drew
    have hf3 := (hf.kp hk4).drew
    have z1 : 0 ≤ d.e - E := by omega
    have z2 : 0 ≤ f.e - E := by omega
    have z3 : d.e - E ≤ 65536 := by omega
    have z4 : f.e - E ≤ 65536 := by omega
    clear hl1 hl2 hE3
    go_region_held3 (fun w' => w'.cell? ⟨w.heap.size, 0, none⟩ = some (.bool d.neg) ∧ w'.cell? ⟨w.heap.size, 1, none⟩ = some (.slice a (limbs d.m).length c) ∧ w'.cell? ⟨w.heap.size, 2, none⟩ = some (.int .i64 d.e) ∧ w'.cell? ⟨w.heap.size + 1, 0, none⟩ = some (.bool f.neg) ∧ w'.cell? ⟨w.heap.size + 1, 1, none⟩ = some (.slice b (limbs f.m).length k) ∧ w'.cell? ⟨w.heap.size + 1, 2, none⟩ = some (.int .i64 f.e)) (first | assumption | exact keep6 (by assumption) (by assumption))
      (first
        | (go_at_call_of 137 (Value.slice a (limbs d.m).length c); refine (shifted_ok d a c _ _ hd3 z1 z3 Hl1.out).mono ?_; rintro e w5 ⟨a5, c5, rfl, r5, l5, m5, hk5⟩)
        | (go_at_call_of 137 (Value.slice b (limbs f.m).length k); refine (shifted_ok f b k _ _ (hf3.kp (by assumption)) z2 z4 Hl2.out).mono ?_; rintro e w6 ⟨a6, c6, rfl, r6, l6, m6, hk6⟩)
        | (go_at_call 136; refine (cmp_any _ _ _ _ _ _ _ (r5.kp (by assumption)) r6 l5 l6 m5 m6).mono ?_; rintro e w7 ⟨rfl, hk7⟩))
    go_wp2_with fail
    go_ret
    refine ⟨ret_int ?_, (((hk4.drew).trans hk5).trans hk6).trans hk7⟩
    rw [← Hfin.out, val_limbs, val_limbs]
  · have H := Lib.hid (cmpN_gt (av_lt hf.1 hd.1 hf0 hd0 ht)).symm
    have h1 : ¬ topI d < topI f := by omega
    go_wp2_with fail
    go_ret
    exact ⟨ret_int H.out, (hk.drew.trans hk2).trans hk3⟩
end Go.Proofs.YtdidocdpjiiedaaGreatDoor
end

section
namespace Go.Proofs.YtdidocdpjiiedaaGreatDoor
open Go.RowKit

/-- the comparison of two integers -/
def cmpZ (x y : Int) : Int := if x < y then -1 else if x = y then 0 else 1
theorem cmpZ_lt {x y : Int} : cmpZ x y < 0 ↔ x < y := by unfold cmpZ; split <;> (try split) <;> omega
theorem cmpZ_gt {x y : Int} : 0 < cmpZ x y ↔ y < x := by unfold cmpZ; split <;> (try split) <;> omega
theorem cmpZ_eq {x y : Int} : cmpZ x y = 0 ↔ x = y := by unfold cmpZ; split <;> (try split) <;> omega
theorem cmpZ_bound (x y : Int) : -1 ≤ cmpZ x y ∧ cmpZ x y ≤ 1 := by unfold cmpZ; split <;> (try split) <;> omega
theorem cmpN_Z (m n : Nat) : cmpN m n = cmpZ m n := by
  unfold cmpZ
  rcases Nat.lt_trichotomy m n with h | h | h
  · rw [cmpN_lt h, if_pos (by omega)]
  · rw [cmpN_eq h, if_neg (by omega), if_pos (by omega)]
  · rw [cmpN_gt h, if_neg (by omega), if_neg (by omega)]
theorem sgn_range (d : Dy) : sgn d = -1 ∨ sgn d = 0 ∨ sgn d = 1 := by
  unfold sgn; split
  · exact .inr (.inl rfl)
  · split
    · exact .inl rfl
    · exact .inr (.inr rfl)
theorem cmp_sgn_lt {d f : Dy} (h : sgn d < sgn f) : cmpZ d.iv f.iv = -1 := by
  have h1 := sgn_iv d
  have h2 := sgn_iv f
  have h3 := sgn_range d
  have h4 := sgn_range f
  unfold cmpZ
  rw [if_pos]
  omega
theorem cmp_sgn_gt {d f : Dy} (h : sgn f < sgn d) : cmpZ d.iv f.iv = 1 := by
  have h1 := sgn_iv d
  have h2 := sgn_iv f
  have h3 := sgn_range d
  have h4 := sgn_range f
  unfold cmpZ
  rw [if_neg (by omega), if_neg (by omega)]
theorem cmp_sgn_zero {d f : Dy} (h : sgn d = sgn f) (h0 : sgn d = 0) : cmpZ d.iv f.iv = 0 := by
  have h1 := sgn_iv d
  have h2 := sgn_iv f
  rw [cmpZ_eq]; omega
theorem cmp_sgn_eq {d f : Dy} (h : sgn d = sgn f) (h0 : sgn d ≠ 0) : cmpZ d.iv f.iv = sgn d * cmpN d.av f.av := by
  have hm : d.m ≠ 0 := fun h1 => h0 (by unfold sgn; rw [if_pos h1])
  have hf : f.m ≠ 0 := fun h1 => h0 (by rw [h]; unfold sgn; rw [if_pos h1])
  rw [cmpN_Z]
  unfold sgn at h ⊢
  rw [if_neg hm, if_neg hf] at h
  rw [if_neg hm]
  cases hd : d.neg with
  | false =>
    rw [hd] at h
    cases hg : f.neg with
    | true => rw [hg] at h; simp at h
    | false => rw [Dy.iv_pos hd, Dy.iv_pos hg]; simp
  | true =>
    rw [hd] at h
    cases hg : f.neg with
    | false => rw [hg] at h; simp at h
    | true =>
      rw [Dy.iv_neg hd, Dy.iv_neg hg]
      unfold cmpZ
      simp only [if_true]
      split <;> (try split) <;> (try split) <;> (try split) <;> omega

set_option maxHeartbeats 4000000 in
theorem Cmp_ok (d f : Dy) (a b : Option Addr) (c k : Nat) (w : World) (hd : DyAt w d a c) (hf : DyAt w f b k) :
    Calls Tryz.prog 32 #[.agg #[.bool d.neg, .slice a (limbs d.m).length c, .int .i64 d.e], .agg #[.bool f.neg, .slice b (limbs f.m).length k, .int .i64 f.e]] w fun e w' => e = .returned (.int .i64 (cmpZ d.iv f.iv)) ∧ Kp w w' := by
  have hs1 := sgn_range d
  have hs2 := sgn_range f
  go_enter Tryz.func32, Tryz.ntmps32
  go_wp2_with fail
  generalize hW : ((w.alloc _).alloc _) = W at *
  have hk : Kp w W := hW ▸ ((Kp.refl w).alloc _).alloc _
  have hS : W.cell? ⟨w.heap.size, 0, none⟩ = some (.bool d.neg) ∧ W.cell? ⟨w.heap.size, 1, none⟩ = some (.slice a (limbs d.m).length c) ∧ W.cell? ⟨w.heap.size, 2, none⟩ = some (.int .i64 d.e) ∧ W.cell? ⟨w.heap.size + 1, 0, none⟩ = some (.bool f.neg) ∧ W.cell? ⟨w.heap.size + 1, 1, none⟩ = some (.slice b (limbs f.m).length k) ∧ W.cell? ⟨w.heap.size + 1, 2, none⟩ = some (.int .i64 f.e) := by rw [← hW]; simp
  clear hW
  refine (Valid_ok d a c _ (hd.kp hk)).mono ?_
  rintro e w1 ⟨rfl, hk1⟩
  have hS1 := keep6 hk1 hS
  clear hS
  go_wp2_with fail
  refine (Valid_ok f b k _ (hf.kp (hk.trans hk1))).mono ?_
  rintro e w2 ⟨rfl, hk2⟩
  have hS2 := keep6 hk2 hS1
  clear hS1
  have hk3 := (hk.trans hk1).trans hk2
  clear hk hk1 hk2
  go_wp2_with fail
  have hd1 := (hd.kp hk3).drew
  have hf1 := (hf.kp hk3).drew
  go_region_held3 (fun w' => w'.cell? ⟨w.heap.size, 0, none⟩ = some (.bool d.neg) ∧ w'.cell? ⟨w.heap.size, 1, none⟩ = some (.slice a (limbs d.m).length c) ∧ w'.cell? ⟨w.heap.size, 2, none⟩ = some (.int .i64 d.e) ∧ w'.cell? ⟨w.heap.size + 1, 0, none⟩ = some (.bool f.neg) ∧ w'.cell? ⟨w.heap.size + 1, 1, none⟩ = some (.slice b (limbs f.m).length k) ∧ w'.cell? ⟨w.heap.size + 1, 2, none⟩ = some (.int .i64 f.e)) (first | assumption | exact keep6 (by assumption) (by assumption))
    (first
      | (go_at_call_of 85 (Value.agg #[.bool d.neg, .slice a (limbs d.m).length c, .int .i64 d.e]); refine (Sign_ok d a c _ hd1).mono ?_; rintro e w4 ⟨rfl, hk4⟩)
      | (go_at_call_of 85 (Value.agg #[.bool f.neg, .slice b (limbs f.m).length k, .int .i64 f.e]); refine (Sign_ok f b k _ (hf1.kp (by assumption))).mono ?_; rintro e w5 ⟨rfl, hk5⟩))
  have hk6 := (hk3.drew.trans hk4).trans hk5
  have hS6 := keep6 hk5 (keep6 hk4 hS2)
  clear hS2
  rcases Int.lt_trichotomy (sgn d) (sgn f) with ht | ht | ht
  · have H := Lib.hid (cmp_sgn_lt ht).symm
    go_wp2_with fail
    go_ret
    exact ⟨ret_int H.out, hk6⟩
  · have h1 : ¬ sgn d < sgn f := by omega
    have h2 : ¬ sgn f < sgn d := by omega
    by_cases h0 : sgn d = 0
    · have H := Lib.hid (cmp_sgn_zero ht h0).symm
      have hz : (sgn d == 0) = true := beq_iff_eq.2 h0
      clear ht h0
      go_wp2_with fail
      go_ret
      exact ⟨ret_int H.out, hk6⟩
    · have H := Lib.hid (cmp_sgn_eq ht h0).symm
      have hz : (sgn d == 0) = false := beq_eq_false_iff_ne.2 h0
      have hm : d.m ≠ 0 := fun h1 => h0 (by unfold sgn; rw [if_pos h1])
      have hg : f.m ≠ 0 := fun h1 => h0 (by rw [ht]; unfold sgn; rw [if_pos h1])
      have hcb : -1 ≤ cmpN d.av f.av ∧ cmpN d.av f.av ≤ 1 := by rw [cmpN_Z]; exact cmpZ_bound _ _
      clear ht h0
      go_wp2_with fail
      refine (compare_ok d f a b c k _ (hd.kp hk6) (hf.kp hk6) hm hg).mono ?_
      rintro e w7 ⟨rfl, hk7⟩
      go_wp2_with fail
      go_ret
      refine ⟨ret_int (.trans ?_ H.out), hk6.trans hk7⟩
      have hp : -1 ≤ sgn d * cmpN d.av f.av ∧ sgn d * cmpN d.av f.av ≤ 1 := by rcases hs1 with h | h | h <;> rw [h] <;> omega
      unfold wrap64; omega

  · have H := Lib.hid (cmp_sgn_gt ht).symm
    have h1 : ¬ sgn d < sgn f := by omega
    go_wp2_with fail
    go_ret
    exact ⟨ret_int H.out, hk6⟩
end Go.Proofs.YtdidocdpjiiedaaGreatDoor
end

section
namespace Go.Proofs.YtdidocdpjiiedaaGreatDoor
open Go.RowKit

/-- the fields of a number, valid or not -/
structure RD where
  neg : Bool
  a : Option Addr
  xs : List Nat
  c : Nat
  e : Int
/-- it can be read -/
def RD.rd (w : World) (x : RD) : Prop := Rd w x.a x.xs ∧ x.xs.length ≤ x.c ∧ x.c ≤ maxLen ∧ x.xs.length ≤ 1100000 ∧ I64 x.e
theorem RD.rd.kp {w w' : World} {x : RD} (h : x.rd w) (k : Kp w w') : x.rd w' := ⟨h.1.kp k, h.2⟩
theorem RD.rd.drew {w : World} {x : RD} (h : x.rd w) : x.rd w.drew := h.kp (Kp.refl w).drew
/-- is it valid? -/
def RD.vl (x : RD) : Bool := vld x.neg x.xs x.e
/-- the number -/
def RD.dy (x : RD) : Dy := ⟨x.neg, val x.xs, x.e⟩
/-- its value, in steps of 2^-16384 -/
def RD.iv (x : RD) : Int := x.dy.iv
theorem RD.limbs {w : World} {x : RD} (h : x.rd w) (hv : x.vl = true) : limbs x.dy.m = x.xs := (vld_ok h.1.lt32 hv).2.1
theorem RD.at {w : World} {x : RD} (h : x.rd w) (hv : x.vl = true) : DyAt w x.dy x.a x.c := by
  have h1 := vld_ok h.1.lt32 hv
  have h2 := RD.limbs h hv
  exact ⟨h1.1, by rw [h2]; exact h.1, by rw [h2]; exact h.2.1, h.2.2.1⟩

theorem Valid_raw (x : RD) (w : World) (h : x.rd w) :
    Calls Tryz.prog 84 #[.agg #[.bool x.neg, .slice x.a x.xs.length x.c, .int .i64 x.e]] w fun e w' => e = .returned (.bool x.vl) ∧ Kp w w' :=
  Valid_any x.neg x.a x.xs x.c x.e w h.1 h.2.1 h.2.2.1 h.2.2.2.1 h.2.2.2.2
theorem Cmp_raw (x y : RD) (w : World) (hx : x.rd w) (hy : y.rd w) (vx : x.vl = true) (vy : y.vl = true) :
    Calls Tryz.prog 32 #[.agg #[.bool x.neg, .slice x.a x.xs.length x.c, .int .i64 x.e], .agg #[.bool y.neg, .slice y.a y.xs.length y.c, .int .i64 y.e]] w fun e w' => e = .returned (.int .i64 (cmpZ x.iv y.iv)) ∧ Kp w w' := by
  have H := Cmp_ok x.dy y.dy x.a y.a x.c y.c w (RD.at hx vx) (RD.at hy vy)
  rw [RD.limbs hx vx, RD.limbs hy vy] at H
  exact H

/-- the fields of an interval, valid or not -/
structure RI where
  lo : RD
  hi : RD
  all : Bool
def RI.rd (w : World) (x : RI) : Prop := x.lo.rd w ∧ x.hi.rd w
theorem RI.rd.kp {w w' : World} {x : RI} (h : x.rd w) (k : Kp w w') : x.rd w' := ⟨h.1.kp k, h.2.kp k⟩
theorem RI.rd.drew {w : World} {x : RI} (h : x.rd w) : x.rd w.drew := h.kp (Kp.refl w).drew
/-- are all fields 0? -/
def RD.zr (x : RD) : Bool := !x.neg && (decide (x.xs.length = 0) && decide (x.e = 0))
/-- is an interval valid? -/
def RI.vl (x : RI) : Bool := if x.all then x.lo.zr && x.hi.zr else x.lo.vl && (x.hi.vl && decide (cmpZ x.lo.iv x.hi.iv ≤ 0))

set_option maxHeartbeats 2000000 in
theorem zero_raw (x : RD) (w : World) :
    Calls Tryz.prog 118 #[.agg #[.bool x.neg, .slice x.a x.xs.length x.c, .int .i64 x.e]] w fun e w' => e = .returned (.bool x.zr) ∧ Kp w w' := by
  have H := Lib.hid (show x.zr = (!x.neg && (decide (x.xs.length = 0) && decide (x.e = 0))) from rfl)
  go_enter Tryz.func118, Tryz.ntmps118
  cases hn : x.neg with
  | true =>
    rw [hn] at H
    clear hn
    go_wp2_with fail
    go_ret
    exact ⟨ret_bool H.out.symm, ((Kp.refl w).alloc _)⟩
  | false =>
    rw [hn] at H
    clear hn
    by_cases h0 : x.xs.length = 0
    · have hz : ((x.xs.length : Int) == 0) = true := beq_iff_eq.2 (by omega)
      rw [decide_eq_true h0] at H
      clear h0
      go_wp2_with fail
      go_ret
      exact ⟨ret_bool (by rw [H.out]; exact Bool.eq_iff_iff.2 (by simp)), ((Kp.refl w).alloc _)⟩
    · have hz : ((x.xs.length : Int) == 0) = false := beq_eq_false_iff_ne.2 (by omega)
      rw [decide_eq_false h0] at H
      clear h0
      go_wp2_with fail
      go_ret
      exact ⟨ret_bool (by rw [H.out]; simp), ((Kp.refl w).alloc _)⟩
end Go.Proofs.YtdidocdpjiiedaaGreatDoor
end

section
namespace Go.Proofs.YtdidocdpjiiedaaGreatDoor
open Go.RowKit

theorem keep7 {w w' : World} (k : Kp w w') {p0 p1 p2 p3 p4 p5 p6 : Addr} {v0 v1 v2 v3 v4 v5 v6 : Value} (h : w.cell? p0 = some v0 ∧ w.cell? p1 = some v1 ∧ w.cell? p2 = some v2 ∧ w.cell? p3 = some v3 ∧ w.cell? p4 = some v4 ∧ w.cell? p5 = some v5 ∧ w.cell? p6 = some v6) : w'.cell? p0 = some v0 ∧ w'.cell? p1 = some v1 ∧ w'.cell? p2 = some v2 ∧ w'.cell? p3 = some v3 ∧ w'.cell? p4 = some v4 ∧ w'.cell? p5 = some v5 ∧ w'.cell? p6 = some v6 :=
  let ⟨h0, h1, h2, h3, h4, h5, h6⟩ := h
  ⟨k.cell h0, k.cell h1, k.cell h2, k.cell h3, k.cell h4, k.cell h5, k.cell h6⟩

set_option maxHeartbeats 4000000 in
theorem IValid_raw (x : RI) (w : World) (h : x.rd w) :
    Calls Tryz.prog 73 #[.agg #[.bool x.lo.neg, .slice x.lo.a x.lo.xs.length x.lo.c, .int .i64 x.lo.e, .bool x.hi.neg, .slice x.hi.a x.hi.xs.length x.hi.c, .int .i64 x.hi.e, .bool x.all]] w fun e w' => e = .returned (.bool x.vl) ∧ Kp w w' := by
  have H := Lib.hid (show x.vl = if x.all then x.lo.zr && x.hi.zr else x.lo.vl && (x.hi.vl && decide (cmpZ x.lo.iv x.hi.iv ≤ 0)) from rfl)
  go_enter Tryz.func73, Tryz.ntmps73
  cases ha : x.all with
  | true =>
    rw [ha] at H
    clear ha
    go_wp2_with fail
    refine (zero_raw x.lo _).mono ?_
    rintro e w1 ⟨rfl, hk1⟩
    have hS := keep7 hk1 (show (w.alloc (.cells #[.bool x.lo.neg, .slice x.lo.a x.lo.xs.length x.lo.c, .int .i64 x.lo.e, .bool x.hi.neg, .slice x.hi.a x.hi.xs.length x.hi.c, .int .i64 x.hi.e, .bool true] 43)).cell? ⟨w.heap.size, 0, none⟩ = some (.bool x.lo.neg) ∧ (w.alloc (.cells #[.bool x.lo.neg, .slice x.lo.a x.lo.xs.length x.lo.c, .int .i64 x.lo.e, .bool x.hi.neg, .slice x.hi.a x.hi.xs.length x.hi.c, .int .i64 x.hi.e, .bool true] 43)).cell? ⟨w.heap.size, 1, none⟩ = some (.slice x.lo.a x.lo.xs.length x.lo.c) ∧ (w.alloc (.cells #[.bool x.lo.neg, .slice x.lo.a x.lo.xs.length x.lo.c, .int .i64 x.lo.e, .bool x.hi.neg, .slice x.hi.a x.hi.xs.length x.hi.c, .int .i64 x.hi.e, .bool true] 43)).cell? ⟨w.heap.size, 2, none⟩ = some (.int .i64 x.lo.e) ∧ (w.alloc (.cells #[.bool x.lo.neg, .slice x.lo.a x.lo.xs.length x.lo.c, .int .i64 x.lo.e, .bool x.hi.neg, .slice x.hi.a x.hi.xs.length x.hi.c, .int .i64 x.hi.e, .bool true] 43)).cell? ⟨w.heap.size, 3, none⟩ = some (.bool x.hi.neg) ∧ (w.alloc (.cells #[.bool x.lo.neg, .slice x.lo.a x.lo.xs.length x.lo.c, .int .i64 x.lo.e, .bool x.hi.neg, .slice x.hi.a x.hi.xs.length x.hi.c, .int .i64 x.hi.e, .bool true] 43)).cell? ⟨w.heap.size, 4, none⟩ = some (.slice x.hi.a x.hi.xs.length x.hi.c) ∧ (w.alloc (.cells #[.bool x.lo.neg, .slice x.lo.a x.lo.xs.length x.lo.c, .int .i64 x.lo.e, .bool x.hi.neg, .slice x.hi.a x.hi.xs.length x.hi.c, .int .i64 x.hi.e, .bool true] 43)).cell? ⟨w.heap.size, 5, none⟩ = some (.int .i64 x.hi.e) ∧ (w.alloc (.cells #[.bool x.lo.neg, .slice x.lo.a x.lo.xs.length x.lo.c, .int .i64 x.lo.e, .bool x.hi.neg, .slice x.hi.a x.hi.xs.length x.hi.c, .int .i64 x.hi.e, .bool true] 43)).cell? ⟨w.heap.size, 6, none⟩ = some (.bool true) by simp)
    have hk2 := ((Kp.refl w).alloc _).trans hk1
    clear hk1
    cases hz : x.lo.zr with
    | false =>
      rw [hz] at H
      clear hz
      go_wp2_with fail
      go_ret
      exact ⟨ret_bool H.out.symm, hk2⟩
    | true =>
      rw [hz] at H
      clear hz
      go_wp2_with fail
      refine (zero_raw x.hi _).mono ?_
      rintro e w3 ⟨rfl, hk3⟩
      go_wp2_with fail
      go_ret
      exact ⟨ret_bool (by rw [H.out]; simp), hk2.trans hk3⟩
  | false =>
    rw [ha] at H
    clear ha
    go_wp2_with fail
    have hk0 := ((Kp.refl w).alloc (.cells #[.bool x.lo.neg, .slice x.lo.a x.lo.xs.length x.lo.c, .int .i64 x.lo.e, .bool x.hi.neg, .slice x.hi.a x.hi.xs.length x.hi.c, .int .i64 x.hi.e, .bool false] 43))
    refine (Valid_raw x.lo _ (h.1.kp hk0)).mono ?_
    rintro e w1 ⟨rfl, hk1⟩
    have hS := keep7 hk1 (show (w.alloc (.cells #[.bool x.lo.neg, .slice x.lo.a x.lo.xs.length x.lo.c, .int .i64 x.lo.e, .bool x.hi.neg, .slice x.hi.a x.hi.xs.length x.hi.c, .int .i64 x.hi.e, .bool false] 43)).cell? ⟨w.heap.size, 0, none⟩ = some (.bool x.lo.neg) ∧ (w.alloc (.cells #[.bool x.lo.neg, .slice x.lo.a x.lo.xs.length x.lo.c, .int .i64 x.lo.e, .bool x.hi.neg, .slice x.hi.a x.hi.xs.length x.hi.c, .int .i64 x.hi.e, .bool false] 43)).cell? ⟨w.heap.size, 1, none⟩ = some (.slice x.lo.a x.lo.xs.length x.lo.c) ∧ (w.alloc (.cells #[.bool x.lo.neg, .slice x.lo.a x.lo.xs.length x.lo.c, .int .i64 x.lo.e, .bool x.hi.neg, .slice x.hi.a x.hi.xs.length x.hi.c, .int .i64 x.hi.e, .bool false] 43)).cell? ⟨w.heap.size, 2, none⟩ = some (.int .i64 x.lo.e) ∧ (w.alloc (.cells #[.bool x.lo.neg, .slice x.lo.a x.lo.xs.length x.lo.c, .int .i64 x.lo.e, .bool x.hi.neg, .slice x.hi.a x.hi.xs.length x.hi.c, .int .i64 x.hi.e, .bool false] 43)).cell? ⟨w.heap.size, 3, none⟩ = some (.bool x.hi.neg) ∧ (w.alloc (.cells #[.bool x.lo.neg, .slice x.lo.a x.lo.xs.length x.lo.c, .int .i64 x.lo.e, .bool x.hi.neg, .slice x.hi.a x.hi.xs.length x.hi.c, .int .i64 x.hi.e, .bool false] 43)).cell? ⟨w.heap.size, 4, none⟩ = some (.slice x.hi.a x.hi.xs.length x.hi.c) ∧ (w.alloc (.cells #[.bool x.lo.neg, .slice x.lo.a x.lo.xs.length x.lo.c, .int .i64 x.lo.e, .bool x.hi.neg, .slice x.hi.a x.hi.xs.length x.hi.c, .int .i64 x.hi.e, .bool false] 43)).cell? ⟨w.heap.size, 5, none⟩ = some (.int .i64 x.hi.e) ∧ (w.alloc (.cells #[.bool x.lo.neg, .slice x.lo.a x.lo.xs.length x.lo.c, .int .i64 x.lo.e, .bool x.hi.neg, .slice x.hi.a x.hi.xs.length x.hi.c, .int .i64 x.hi.e, .bool false] 43)).cell? ⟨w.heap.size, 6, none⟩ = some (.bool false) by simp)
    have hk2 := hk0.trans hk1
    clear hk0 hk1
    cases hz : x.lo.vl with
    | false =>
      rw [hz] at H
      clear hz
      go_wp2_with fail
      go_ret
      exact ⟨ret_bool H.out.symm, hk2⟩
    | true =>
      rw [hz] at H
      have Hz := Lib.hid hz
      clear hz
      go_wp2_with fail
      refine (Valid_raw x.hi _ (h.2.kp hk2)).mono ?_
      rintro e w3 ⟨rfl, hk3⟩
      have hS2 := keep7 hk3 hS
      have hk4 := hk2.trans hk3
      clear hk2 hk3 hS
      cases hy : x.hi.vl with
      | false =>
        rw [hy] at H
        clear hy
        go_wp2_with fail
        go_ret
        exact ⟨ret_bool H.out.symm, hk4⟩
      | true =>
        rw [hy] at H
        have Hy := Lib.hid hy
        clear hy
        go_wp2_with fail
        refine (Cmp_raw x.lo x.hi _ (h.1.kp hk4) (h.2.kp hk4) Hz.out Hy.out).mono ?_
        rintro e w5 ⟨rfl, hk5⟩
        go_wp2_with fail
        go_ret
        exact ⟨ret_bool H.out.symm, hk4.trans hk5⟩
end Go.Proofs.YtdidocdpjiiedaaGreatDoor
end

section
namespace Go.Proofs.YtdidocdpjiiedaaGreatDoor
open Go.RowKit

/-- a valid interval other than All -/
def RI.ok (w : World) (x : RI) : Prop := x.rd w ∧ x.all = false ∧ x.vl = true
theorem RI.ok.kp {w w' : World} {x : RI} (h : x.ok w) (k : Kp w w') : x.ok w' := ⟨h.1.kp k, h.2⟩
theorem RI.ok.drew {w : World} {x : RI} (h : x.ok w) : x.ok w.drew := h.kp (Kp.refl w).drew
theorem RI.ok.parts {w : World} {x : RI} (h : x.ok w) : x.lo.vl = true ∧ x.hi.vl = true ∧ x.lo.iv ≤ x.hi.iv := by
  obtain ⟨_, h1, h2⟩ := h
  unfold RI.vl at h2
  rw [h1] at h2
  simp only [Bool.false_eq_true, if_false, Bool.and_eq_true, decide_eq_true_eq] at h2
  refine ⟨h2.1, h2.2.1, ?_⟩
  have := h2.2.2
  have h3 := @cmpZ_gt x.lo.iv x.hi.iv
  omega
/-- a number that is valid -/
def RD.ok (w : World) (x : RD) : Prop := x.rd w ∧ x.vl = true
theorem RD.ok.kp {w w' : World} {x : RD} (h : x.ok w) (k : Kp w w') : x.ok w' := ⟨h.1.kp k, h.2⟩
theorem RI.ok.lo {w : World} {x : RI} (h : x.ok w) : x.lo.ok w := ⟨h.1.1, h.parts.1⟩
theorem RI.ok.hi {w : World} {x : RI} (h : x.ok w) : x.hi.ok w := ⟨h.1.2, h.parts.2.1⟩
theorem Cmp_rok (x y : RD) (w : World) (hx : x.ok w) (hy : y.ok w) :
    Calls Tryz.prog 32 #[.agg #[.bool x.neg, .slice x.a x.xs.length x.c, .int .i64 x.e], .agg #[.bool y.neg, .slice y.a y.xs.length y.c, .int .i64 y.e]] w fun e w' => e = .returned (.int .i64 (cmpZ x.iv y.iv)) ∧ Kp w w' := Cmp_raw x y w hx.1 hy.1 hx.2 hy.2
theorem keep77 {w w' : World} (k : Kp w w') {p0 p1 p2 p3 p4 p5 p6 q0 q1 q2 q3 q4 q5 q6 : Addr} {v0 v1 v2 v3 v4 v5 v6 u0 u1 u2 u3 u4 u5 u6 : Value}
    (h : (w.cell? p0 = some v0 ∧ w.cell? p1 = some v1 ∧ w.cell? p2 = some v2 ∧ w.cell? p3 = some v3 ∧ w.cell? p4 = some v4 ∧ w.cell? p5 = some v5 ∧ w.cell? p6 = some v6) ∧ w.cell? q0 = some u0 ∧ w.cell? q1 = some u1 ∧ w.cell? q2 = some u2 ∧ w.cell? q3 = some u3 ∧ w.cell? q4 = some u4 ∧ w.cell? q5 = some u5 ∧ w.cell? q6 = some u6) :
    (w'.cell? p0 = some v0 ∧ w'.cell? p1 = some v1 ∧ w'.cell? p2 = some v2 ∧ w'.cell? p3 = some v3 ∧ w'.cell? p4 = some v4 ∧ w'.cell? p5 = some v5 ∧ w'.cell? p6 = some v6) ∧ w'.cell? q0 = some u0 ∧ w'.cell? q1 = some u1 ∧ w'.cell? q2 = some u2 ∧ w'.cell? q3 = some u3 ∧ w'.cell? q4 = some u4 ∧ w'.cell? q5 = some u5 ∧ w'.cell? q6 = some u6 :=
  ⟨keep7 k h.1, keep7 k h.2⟩
theorem Valid_rok (x : RD) (w : World) (h : x.ok w) :
    Calls Tryz.prog 84 #[.agg #[.bool x.neg, .slice x.a x.xs.length x.c, .int .i64 x.e]] w fun e w' => e = .returned (.bool true) ∧ Kp w w' := by
  have H := Valid_raw x w h.1
  rwa [h.2] at H
end Go.Proofs.YtdidocdpjiiedaaGreatDoor
end

section
namespace Go.Proofs.YtdidocdpjiiedaaGreatDoor
open Go.RowKit
/-- the cells of numbers, one behind the other -/
def RowD (w : World) (a : Option Addr) (zs : List RD) : Prop :=
  ∀ i x, zs[i]? = some x → ∃ b o, a = some ⟨b, o, none⟩ ∧ x.rd w ∧ w.cell? ⟨b, o + i * 3, none⟩ = some (.bool x.neg) ∧ w.cell? ⟨b, o + i * 3 + 1, none⟩ = some (.slice x.a x.xs.length x.c) ∧ w.cell? ⟨b, o + i * 3 + 2, none⟩ = some (.int .i64 x.e)
theorem RowD.kp {w w' : World} {a : Option Addr} {zs : List RD} (h : RowD w a zs) (k : Kp w w') : RowD w' a zs := by
  intro i x hi
  obtain ⟨b, o, rfl, hr, h0, h1, h2⟩ := h i x hi
  exact ⟨b, o, rfl, hr.kp k, k.cell h0, k.cell h1, k.cell h2⟩

end Go.Proofs.YtdidocdpjiiedaaGreatDoor
end

section
namespace Go.Proofs.YtdidocdpjiiedaaGreatDoor
open Go.RowKit

/-- the cells of intervals, one behind the other -/
def RowI (w : World) (a : Option Addr) (zs : List RI) : Prop :=
  ∀ i x, zs[i]? = some x → ∃ b o, a = some ⟨b, o, none⟩ ∧ x.rd w ∧ w.cell? ⟨b, o + i * 7, none⟩ = some (.bool x.lo.neg) ∧ w.cell? ⟨b, o + i * 7 + 1, none⟩ = some (.slice x.lo.a x.lo.xs.length x.lo.c) ∧ w.cell? ⟨b, o + i * 7 + 2, none⟩ = some (.int .i64 x.lo.e) ∧
    w.cell? ⟨b, o + i * 7 + 3, none⟩ = some (.bool x.hi.neg) ∧ w.cell? ⟨b, o + i * 7 + 4, none⟩ = some (.slice x.hi.a x.hi.xs.length x.hi.c) ∧ w.cell? ⟨b, o + i * 7 + 5, none⟩ = some (.int .i64 x.hi.e) ∧ w.cell? ⟨b, o + i * 7 + 6, none⟩ = some (.bool x.all)
theorem RowI.kp {w w' : World} {a : Option Addr} {zs : List RI} (h : RowI w a zs) (k : Kp w w') : RowI w' a zs := by
  intro i x hi
  obtain ⟨b, o, rfl, hr, h0, h1, h2, h3, h4, h5, h6⟩ := h i x hi
  exact ⟨b, o, rfl, hr.kp k, k.cell h0, k.cell h1, k.cell h2, k.cell h3, k.cell h4, k.cell h5, k.cell h6⟩
/-- valid, and not All -/
def goodI (x : RI) : Bool := !x.all && x.vl
theorem goodI_ok {w : World} {x : RI} (h : x.rd w) : goodI x = true ↔ x.ok w := by
  unfold goodI RI.ok
  cases x.all <;> simp [h]

set_option maxHeartbeats 4000000 in
theorem known_any (a : Option Addr) (zs : List RI) (c : Nat) (w : World) (h : RowI w a zs) (hl : zs.length ≤ 1100000) :
    Calls Tryz.prog 108 #[.slice a zs.length c] w fun e w' => e = .returned (.bool (zs.all goodI)) ∧ Kp w w' := by
  go_enter Tryz.func108, Tryz.ntmps108
  go_wp2
  go_loopw [7] (fun x wr => ∃ k : Nat, k ≤ zs.length ∧ x = .int .i64 k ∧ (∀ i y, zs[i]? = some y → i < k → goodI y = true) ∧ Kp w wr) (fun x _ => zs.length - (intOf x).toNat)
  case atStart => exact ⟨0, by omega, rfl, fun i y _ h1 => by omega, .refl _⟩
  case round =>
    obtain ⟨k, hk, rfl, hz, hkp⟩ := hrel
    have Hz := Lib.hid hz; clear hz
    by_cases hlt : k < zs.length
    · obtain ⟨b, o, rfl, hr, h0, h1, h2, h3, h4, h5, h6⟩ := (h.kp hkp) k (zs[k]) (List.getElem?_eq_getElem hlt)
      have Hg := Lib.hid (List.getElem?_eq_getElem hlt)
      generalize zs[k] = x at *
      have H := Lib.hid (show goodI x = (!x.all && x.vl) from rfl)
      have step : goodI x = true → ∀ i y, zs[i]? = some y → i < k + 1 → goodI y = true := fun hq i y hy hi => by
        by_cases e : i = k
        · subst e; rw [Hg.out] at hy; cases hy; exact hq
        · exact Hz.out i y hy (by omega)
      have fall : goodI x = false → zs.all goodI = false := fun hq => by
        rw [List.all_eq_false]
        exact ⟨x, List.mem_of_getElem? Hg.out, by rw [hq]; decide⟩
      have Hs := Lib.hid step
      have Hf := Lib.hid fall
      clear step fall
      have hmv := IValid_raw x
      cases ha : x.all with
      | true =>
        rw [ha] at H h6
        clear ha hmv
        go_wp2_with fail
        go_ret
        exact ⟨ret_bool (Hf.out H.out).symm, by first | exact hkp.alloc _ | exact ((hkp.alloc _).alloc _)⟩
      | false =>
        rw [ha] at H h6
        have hm := hmv (wr.alloc (.cells #[.bool x.lo.neg, .slice x.lo.a x.lo.xs.length x.lo.c, .int .i64 x.lo.e, .bool x.hi.neg, .slice x.hi.a x.hi.xs.length x.hi.c, .int .i64 x.hi.e, .bool false] 43)) (hr.kp ((Kp.refl _).alloc _))
        rw [ha] at hm
        clear ha hmv
        go_wp2_with fail
        cases hv : x.vl with
        | true =>
          rw [hv] at H hm
          clear hv
          refine hm.mono ?_
          rintro e w2 ⟨rfl, hk2⟩
          go_wp2_with fail
          go_roundw
          case rel => exact ⟨k + 1, by omega, by go_num, Hs.out H.out, (hkp.alloc _).trans hk2⟩
          case measure => simp [intOf]; omega
        | false =>
          rw [hv] at H hm
          clear hv
          refine hm.mono ?_
          rintro e w2 ⟨rfl, hk2⟩
          go_wp2_with fail
          go_ret
          exact ⟨ret_bool (Hf.out H.out).symm, (hkp.alloc _).trans hk2⟩
    · have hall : zs.all goodI = true := by
        rw [List.all_eq_true]
        intro y hy
        obtain ⟨i, hi⟩ := List.getElem?_of_mem hy
        have : i < zs.length := (List.getElem?_eq_some_iff.1 hi).1
        exact Hz.out i y hi (by omega)
      have H := Lib.hid hall.symm
      clear hall
      go_wp2
      go_ret
      exact ⟨ret_bool H.out, hkp⟩
end Go.Proofs.YtdidocdpjiiedaaGreatDoor
end

section
namespace Go.Proofs.YtdidocdpjiiedaaGreatDoor
open Go.RowKit

/-- the lesser one -/
def lessR (x y : RD) : RD := if x.iv ≤ y.iv then x else y
/-- the greater one -/
def moreR (x y : RD) : RD := if y.iv ≤ x.iv then x else y
theorem keep33 {w w' : World} (k : Kp w w') {p0 p1 p2 q0 q1 q2 : Addr} {v0 v1 v2 u0 u1 u2 : Value}
    (h : (w.cell? p0 = some v0 ∧ w.cell? p1 = some v1 ∧ w.cell? p2 = some v2) ∧ w.cell? q0 = some u0 ∧ w.cell? q1 = some u1 ∧ w.cell? q2 = some u2) :
    (w'.cell? p0 = some v0 ∧ w'.cell? p1 = some v1 ∧ w'.cell? p2 = some v2) ∧ w'.cell? q0 = some u0 ∧ w'.cell? q1 = some u1 ∧ w'.cell? q2 = some u2 :=
  ⟨keep3 k h.1, keep3 k h.2⟩
theorem Box3.new3 (w : World) (x0 x1 x2 : Value) (t : TypeId) (o1 o2 : Obj) : Box3 (((w.alloc o1).alloc o2).alloc (.cells #[x0, x1, x2] t)) (w.heap.size + 2) x0 x1 x2 := by
  have := Box3.new ((w.alloc o1).alloc o2) x0 x1 x2 t
  rwa [World.size_alloc, World.size_alloc] at this

set_option maxHeartbeats 4000000 in
theorem less_ok (x y : RD) (w : World) (hx : x.ok w) (hy : y.ok w) :
    Calls Tryz.prog 148 #[.agg #[.bool x.neg, .slice x.a x.xs.length x.c, .int .i64 x.e], .agg #[.bool y.neg, .slice y.a y.xs.length y.c, .int .i64 y.e]] w fun e w' => e = .returned (.agg #[.bool (lessR x y).neg, .slice (lessR x y).a (lessR x y).xs.length (lessR x y).c, .int .i64 (lessR x y).e]) ∧ Kp w w' := by
  go_enter Tryz.func148, Tryz.ntmps148
  go_wp2_with fail
  generalize hW : (((w.alloc _).alloc _).alloc _) = W at *
  have hk : Kp w W := hW ▸ (((Kp.refl w).alloc _).alloc _).alloc _
  have hS : (W.cell? ⟨w.heap.size, 0, none⟩ = some (.bool x.neg) ∧ W.cell? ⟨w.heap.size, 1, none⟩ = some (.slice x.a x.xs.length x.c) ∧ W.cell? ⟨w.heap.size, 2, none⟩ = some (.int .i64 x.e)) ∧ W.cell? ⟨w.heap.size + 1, 0, none⟩ = some (.bool y.neg) ∧ W.cell? ⟨w.heap.size + 1, 1, none⟩ = some (.slice y.a y.xs.length y.c) ∧ W.cell? ⟨w.heap.size + 1, 2, none⟩ = some (.int .i64 y.e) := by rw [← hW]; exact keep33 ((Kp.refl _).alloc _) (by simp)
  have hB : Box3 W (w.heap.size + 2) (.bool false) (.slice none 0 0) (.int .i64 0) := hW ▸ Box3.new3 _ _ _ _ _ _ _
  clear hW
  refine (Cmp_rok x y _ (hx.kp hk) (hy.kp hk)).mono ?_
  rintro e w1 ⟨rfl, hk1⟩
  have hS1 := keep33 hk1 hS
  obtain ⟨q0, q1, q2, f0, f1, f2⟩ := hB.kp hk1
  have hk2 := hk.trans hk1
  clear hS hk hk1 hB
  by_cases hc : cmpZ x.iv y.iv ≤ 0
  · have hd := decide_eq_true hc
    have H := Lib.hid (show lessR x y = x by unfold lessR; rw [if_pos]; have := @cmpZ_gt x.iv y.iv; omega)
    clear hc
    go_wp2_with fail
    have hst := stored q0 q1 q2 (fun _ h => by cases h) (fun _ h => by cases h) (fun _ h => by cases h) (.bool x.neg) (.slice x.a x.xs.length x.c) (.int .i64 x.e)
    generalize (((w1.setCell _ _).setCell _ _).setCell _ _) = W2 at hst ⊢
    obtain ⟨s0, s1, s2, _, s4, s5, _, _⟩ := hst
    refine bodyPost_ret (v := .agg #[.bool x.neg, .slice x.a x.xs.length x.c, .int .i64 x.e]) (by simp [results, Tryz.results148, go_sem, s0, s1, s2]) rfl ?_
    rw [H.out]
    exact ⟨rfl, s5 _ hk2 (by omega)⟩
  · have hd := decide_eq_false hc
    have H := Lib.hid (show lessR x y = y by unfold lessR; rw [if_neg]; have := @cmpZ_gt x.iv y.iv; omega)
    clear hc
    go_wp2_with fail
    have hst := stored q0 q1 q2 (fun _ h => by cases h) (fun _ h => by cases h) (fun _ h => by cases h) (.bool y.neg) (.slice y.a y.xs.length y.c) (.int .i64 y.e)
    generalize (((w1.setCell _ _).setCell _ _).setCell _ _) = W2 at hst ⊢
    obtain ⟨s0, s1, s2, _, s4, s5, _, _⟩ := hst
    refine bodyPost_ret (v := .agg #[.bool y.neg, .slice y.a y.xs.length y.c, .int .i64 y.e]) (by simp [results, Tryz.results148, go_sem, s0, s1, s2]) rfl ?_
    rw [H.out]
    exact ⟨rfl, s5 _ hk2 (by omega)⟩

set_option maxHeartbeats 4000000 in
theorem more_ok (x y : RD) (w : World) (hx : x.ok w) (hy : y.ok w) :
    Calls Tryz.prog 109 #[.agg #[.bool x.neg, .slice x.a x.xs.length x.c, .int .i64 x.e], .agg #[.bool y.neg, .slice y.a y.xs.length y.c, .int .i64 y.e]] w fun e w' => e = .returned (.agg #[.bool (moreR x y).neg, .slice (moreR x y).a (moreR x y).xs.length (moreR x y).c, .int .i64 (moreR x y).e]) ∧ Kp w w' := by
  go_enter Tryz.func109, Tryz.ntmps109
  go_wp2_with fail
  generalize hW : (((w.alloc _).alloc _).alloc _) = W at *
  have hk : Kp w W := hW ▸ (((Kp.refl w).alloc _).alloc _).alloc _
  have hS : (W.cell? ⟨w.heap.size, 0, none⟩ = some (.bool x.neg) ∧ W.cell? ⟨w.heap.size, 1, none⟩ = some (.slice x.a x.xs.length x.c) ∧ W.cell? ⟨w.heap.size, 2, none⟩ = some (.int .i64 x.e)) ∧ W.cell? ⟨w.heap.size + 1, 0, none⟩ = some (.bool y.neg) ∧ W.cell? ⟨w.heap.size + 1, 1, none⟩ = some (.slice y.a y.xs.length y.c) ∧ W.cell? ⟨w.heap.size + 1, 2, none⟩ = some (.int .i64 y.e) := by rw [← hW]; exact keep33 ((Kp.refl _).alloc _) (by simp)
  have hB : Box3 W (w.heap.size + 2) (.bool false) (.slice none 0 0) (.int .i64 0) := hW ▸ Box3.new3 _ _ _ _ _ _ _
  clear hW
  refine (Cmp_rok x y _ (hx.kp hk) (hy.kp hk)).mono ?_
  rintro e w1 ⟨rfl, hk1⟩
  have hS1 := keep33 hk1 hS
  obtain ⟨q0, q1, q2, f0, f1, f2⟩ := hB.kp hk1
  have hk2 := hk.trans hk1
  clear hS hk hk1 hB
  by_cases hc : 0 ≤ cmpZ x.iv y.iv
  · have hd := decide_eq_true hc
    have H := Lib.hid (show moreR x y = x by unfold moreR; rw [if_pos]; have := @cmpZ_lt x.iv y.iv; omega)
    clear hc
    go_wp2_with fail
    have hst := stored q0 q1 q2 (fun _ h => by cases h) (fun _ h => by cases h) (fun _ h => by cases h) (.bool x.neg) (.slice x.a x.xs.length x.c) (.int .i64 x.e)
    generalize (((w1.setCell _ _).setCell _ _).setCell _ _) = W2 at hst ⊢
    obtain ⟨s0, s1, s2, _, s4, s5, _, _⟩ := hst
    refine bodyPost_ret (v := .agg #[.bool x.neg, .slice x.a x.xs.length x.c, .int .i64 x.e]) (by simp [results, Tryz.results109, go_sem, s0, s1, s2]) rfl ?_
    rw [H.out]
    exact ⟨rfl, s5 _ hk2 (by omega)⟩
  · have hd := decide_eq_false hc
    have H := Lib.hid (show moreR x y = y by unfold moreR; rw [if_neg]; have := @cmpZ_lt x.iv y.iv; omega)
    clear hc
    go_wp2_with fail
    have hst := stored q0 q1 q2 (fun _ h => by cases h) (fun _ h => by cases h) (fun _ h => by cases h) (.bool y.neg) (.slice y.a y.xs.length y.c) (.int .i64 y.e)
    generalize (((w1.setCell _ _).setCell _ _).setCell _ _) = W2 at hst ⊢
    obtain ⟨s0, s1, s2, _, s4, s5, _, _⟩ := hst
    refine bodyPost_ret (v := .agg #[.bool y.neg, .slice y.a y.xs.length y.c, .int .i64 y.e]) (by simp [results, Tryz.results109, go_sem, s0, s1, s2]) rfl ?_
    rw [H.out]
    exact ⟨rfl, s5 _ hk2 (by omega)⟩
end Go.Proofs.YtdidocdpjiiedaaGreatDoor
end

section
namespace Go.Proofs.YtdidocdpjiiedaaGreatDoor
open Go.RowKit

/-- W is w but for cells of the block g that are of the call's own -/
def Upd (g : Nat) (w W : World) : Prop :=
  (∀ p : Addr, W.frozen? p = w.frozen? p) ∧ (∀ a xs, Rd w a xs → Rd W a xs) ∧ (∀ a : World, Kp a w → a.heap.size ≤ g → Kp a W) ∧ (∀ p : Addr, p.block ≠ g → W.cell? p = w.cell? p) ∧ W.heap.size = w.heap.size
theorem Upd.refl (g : Nat) (w : World) : Upd g w w := ⟨fun _ => rfl, fun _ _ h => h, fun _ h _ => h, fun _ _ => rfl, rfl⟩
theorem Upd.step {g : Nat} {w W : World} (h : Upd g w W) {i : Nat} {y : Value} (hc : W.cell? ⟨g, i, none⟩ = some y) (hy : ∀ n : Int, y ≠ .int .u32 n) (v : Value) : Upd g w (W.setCell ⟨g, i, none⟩ v) := by
  obtain ⟨h1, h2, h3, h4, h5⟩ := h
  refine ⟨fun p => by rw [← h1 p]; simp, fun a xs hr => (h2 a xs hr).other hc hy, fun a hk hg => (h3 a hk hg).set hg _, fun p hp => ?_, by rw [← h5]; simp⟩
  rw [cell_set_ne, h4 p hp]
  intro e; exact hp (by rw [← e])
theorem set_at {w : World} {g i j : Nat} {v u : Value} (hij : i ≠ j) (h : w.cell? ⟨g, j, none⟩ = some u) : (w.setCell ⟨g, i, none⟩ v).cell? ⟨g, j, none⟩ = some u := by
  rw [cell_set_ne (fun e => hij (by injection e))]; exact h
/-- the cells of an interval -/
def Box7 (w : World) (g : Nat) (x0 x1 x2 x3 x4 x5 x6 : Value) : Prop :=
  w.cell? ⟨g, 0, none⟩ = some x0 ∧ w.cell? ⟨g, 1, none⟩ = some x1 ∧ w.cell? ⟨g, 2, none⟩ = some x2 ∧ w.cell? ⟨g, 3, none⟩ = some x3 ∧ w.cell? ⟨g, 4, none⟩ = some x4 ∧ w.cell? ⟨g, 5, none⟩ = some x5 ∧ w.cell? ⟨g, 6, none⟩ = some x6
theorem Box7.kp {w w' : World} {g : Nat} {x0 x1 x2 x3 x4 x5 x6 : Value} (h : Box7 w g x0 x1 x2 x3 x4 x5 x6) (k : Kp w w') : Box7 w' g x0 x1 x2 x3 x4 x5 x6 := keep7 k h
theorem Box7.new (w : World) (x0 x1 x2 x3 x4 x5 x6 : Value) (t : TypeId) : Box7 (w.alloc (.cells #[x0, x1, x2, x3, x4, x5, x6] t)) w.heap.size x0 x1 x2 x3 x4 x5 x6 := by
  refine ⟨?_, ?_, ?_, ?_, ?_, ?_, ?_⟩ <;> simp
theorem stored7 {w : World} {g : Nat} {y0 y1 y2 y3 y4 y5 y6 : Value} (h : Box7 w g y0 y1 y2 y3 y4 y5 y6)
    (n0 : ∀ n : Int, y0 ≠ .int .u32 n) (n1 : ∀ n : Int, y1 ≠ .int .u32 n) (n2 : ∀ n : Int, y2 ≠ .int .u32 n) (n3 : ∀ n : Int, y3 ≠ .int .u32 n) (n4 : ∀ n : Int, y4 ≠ .int .u32 n) (n5 : ∀ n : Int, y5 ≠ .int .u32 n) (n6 : ∀ n : Int, y6 ≠ .int .u32 n)
    (x0 x1 x2 x3 x4 x5 x6 : Value) {W : World}
    (hW : (((((((w.setCell ⟨g, 0, none⟩ x0).setCell ⟨g, 1, none⟩ x1).setCell ⟨g, 2, none⟩ x2).setCell ⟨g, 3, none⟩ x3).setCell ⟨g, 4, none⟩ x4).setCell ⟨g, 5, none⟩ x5).setCell ⟨g, 6, none⟩ x6) = W) :
    Box7 W g x0 x1 x2 x3 x4 x5 x6 ∧ Upd g w W := by
  subst hW
  obtain ⟨h0, h1, h2, h3, h4, h5, h6⟩ := h
  have d (i j : Nat) (h : i ≠ j) : i ≠ j := h
  have u0 := (Upd.refl g w).step h0 n0 x0
  have u1 := u0.step (set_at (by decide) h1) n1 x1
  have u2 := u1.step (set_at (by decide) (set_at (by decide) h2)) n2 x2
  have u3 := u2.step (set_at (by decide) (set_at (by decide) (set_at (by decide) h3))) n3 x3
  have u4 := u3.step (set_at (by decide) (set_at (by decide) (set_at (by decide) (set_at (by decide) h4)))) n4 x4
  have u5 := u4.step (set_at (by decide) (set_at (by decide) (set_at (by decide) (set_at (by decide) (set_at (by decide) h5))))) n5 x5
  have u6 := u5.step (set_at (by decide) (set_at (by decide) (set_at (by decide) (set_at (by decide) (set_at (by decide) (set_at (by decide) h6)))))) n6 x6
  refine ⟨⟨?_, ?_, ?_, ?_, ?_, ?_, ?_⟩, u6⟩
  · exact set_at (by decide) (set_at (by decide) (set_at (by decide) (set_at (by decide) (set_at (by decide) (set_at (by decide) (cell_set_eq h0))))))
  · exact set_at (by decide) (set_at (by decide) (set_at (by decide) (set_at (by decide) (set_at (by decide) (cell_set_eq (set_at (by decide) h1))))))
  · exact set_at (by decide) (set_at (by decide) (set_at (by decide) (set_at (by decide) (cell_set_eq (set_at (by decide) (set_at (by decide) h2))))))
  · exact set_at (by decide) (set_at (by decide) (set_at (by decide) (cell_set_eq (set_at (by decide) (set_at (by decide) (set_at (by decide) h3))))))
  · exact set_at (by decide) (set_at (by decide) (cell_set_eq (set_at (by decide) (set_at (by decide) (set_at (by decide) (set_at (by decide) h4))))))
  · exact set_at (by decide) (cell_set_eq (set_at (by decide) (set_at (by decide) (set_at (by decide) (set_at (by decide) (set_at (by decide) h5))))))
  · exact cell_set_eq (set_at (by decide) (set_at (by decide) (set_at (by decide) (set_at (by decide) (set_at (by decide) (set_at (by decide) h6))))))

/-- none of the seven cells is frozen -/
def Frz (w : World) (g : Nat) : Prop :=
  w.frozen? ⟨g, 0, none⟩ = false ∧ w.frozen? ⟨g, 1, none⟩ = false ∧ w.frozen? ⟨g, 2, none⟩ = false ∧ w.frozen? ⟨g, 3, none⟩ = false ∧ w.frozen? ⟨g, 4, none⟩ = false ∧ w.frozen? ⟨g, 5, none⟩ = false ∧ w.frozen? ⟨g, 6, none⟩ = false
theorem Frz.kp {w w' : World} {g : Nat} {x0 x1 x2 x3 x4 x5 x6 : Value} (h : Frz w g) (b : Box7 w g x0 x1 x2 x3 x4 x5 x6) (k : Kp w w') : Frz w' g :=
  ⟨k.frozen b.1 h.1, k.frozen b.2.1 h.2.1, k.frozen b.2.2.1 h.2.2.1, k.frozen b.2.2.2.1 h.2.2.2.1, k.frozen b.2.2.2.2.1 h.2.2.2.2.1, k.frozen b.2.2.2.2.2.1 h.2.2.2.2.2.1, k.frozen b.2.2.2.2.2.2 h.2.2.2.2.2.2⟩
theorem Frz.new (w : World) (x0 x1 x2 x3 x4 x5 x6 : Value) (t : TypeId) : Frz (w.alloc (.cells #[x0, x1, x2, x3, x4, x5, x6] t)) w.heap.size := by
  refine ⟨?_, ?_, ?_, ?_, ?_, ?_, ?_⟩ <;> simp
/-- a variable of the call's own, with room for an interval -/
def Var7 (w : World) (g : Nat) : Prop := Box7 w g (.bool false) (.slice none 0 0) (.int .i64 0) (.bool false) (.slice none 0 0) (.int .i64 0) (.bool false) ∧ Frz w g
theorem Var7.kp {w w' : World} {g : Nat} (h : Var7 w g) (k : Kp w w') : Var7 w' g := ⟨h.1.kp k, h.2.kp h.1 k⟩
theorem Var7.alloc {w : World} {g : Nat} (h : Var7 w g) (o : Obj) : Var7 (w.alloc o) g := h.kp ((Kp.refl w).alloc o)
theorem Var7.new (w : World) (t : TypeId) : Var7 (w.alloc (.cells #[.bool false, .slice none 0 0, .int .i64 0, .bool false, .slice none 0 0, .int .i64 0, .bool false] t)) w.heap.size := ⟨Box7.new _ _ _ _ _ _ _ _ _, Frz.new _ _ _ _ _ _ _ _ _⟩
theorem Var7.new2 (w : World) (t : TypeId) (o1 o2 : Obj) : Var7 (((w.alloc o1).alloc o2).alloc (.cells #[.bool false, .slice none 0 0, .int .i64 0, .bool false, .slice none 0 0, .int .i64 0, .bool false] t)) (w.heap.size + 1 + 1) := by
  have := Var7.new ((w.alloc o1).alloc o2) t
  rwa [World.size_alloc, World.size_alloc] at this
/-- the hull -/
def hullI (x y : RI) : RI := ⟨lessR x.lo y.lo, moreR x.hi y.hi, false⟩
theorem lessR_ok {w : World} {x y : RD} (hx : x.ok w) (hy : y.ok w) : (lessR x y).ok w := by unfold lessR; split <;> assumption
theorem moreR_ok {w : World} {x y : RD} (hx : x.ok w) (hy : y.ok w) : (moreR x y).ok w := by unfold moreR; split <;> assumption
theorem RI.ok_mk {w : World} {x y : RD} (hx : x.ok w) (hy : y.ok w) (h : x.iv ≤ y.iv) : RI.ok w ⟨x, y, false⟩ := by
  refine ⟨⟨hx.1, hy.1⟩, rfl, ?_⟩
  show (if false = true then _ else _) = true
  have := @cmpZ_gt x.iv y.iv
  simp [hx.2, hy.2]; omega
theorem set77 {w : World} {g g1 g2 : Nat} (n1 : g1 ≠ g) (n2 : g2 ≠ g) {v0 v1 v2 v3 v4 v5 v6 u0 u1 u2 u3 u4 u5 u6 x0 x1 x2 x3 x4 x5 x6 : Value}
    (h : (w.cell? ⟨g1, 0, none⟩ = some v0 ∧ w.cell? ⟨g1, 1, none⟩ = some v1 ∧ w.cell? ⟨g1, 2, none⟩ = some v2 ∧ w.cell? ⟨g1, 3, none⟩ = some v3 ∧ w.cell? ⟨g1, 4, none⟩ = some v4 ∧ w.cell? ⟨g1, 5, none⟩ = some v5 ∧ w.cell? ⟨g1, 6, none⟩ = some v6) ∧ w.cell? ⟨g2, 0, none⟩ = some u0 ∧ w.cell? ⟨g2, 1, none⟩ = some u1 ∧ w.cell? ⟨g2, 2, none⟩ = some u2 ∧ w.cell? ⟨g2, 3, none⟩ = some u3 ∧ w.cell? ⟨g2, 4, none⟩ = some u4 ∧ w.cell? ⟨g2, 5, none⟩ = some u5 ∧ w.cell? ⟨g2, 6, none⟩ = some u6) :
    ((((((((w.setCell ⟨g, 0, none⟩ x0).setCell ⟨g, 1, none⟩ x1).setCell ⟨g, 2, none⟩ x2).setCell ⟨g, 3, none⟩ x3).setCell ⟨g, 4, none⟩ x4).setCell ⟨g, 5, none⟩ x5).setCell ⟨g, 6, none⟩ x6).cell? ⟨g1, 0, none⟩ = some v0 ∧ (((((((w.setCell ⟨g, 0, none⟩ x0).setCell ⟨g, 1, none⟩ x1).setCell ⟨g, 2, none⟩ x2).setCell ⟨g, 3, none⟩ x3).setCell ⟨g, 4, none⟩ x4).setCell ⟨g, 5, none⟩ x5).setCell ⟨g, 6, none⟩ x6).cell? ⟨g1, 1, none⟩ = some v1 ∧ (((((((w.setCell ⟨g, 0, none⟩ x0).setCell ⟨g, 1, none⟩ x1).setCell ⟨g, 2, none⟩ x2).setCell ⟨g, 3, none⟩ x3).setCell ⟨g, 4, none⟩ x4).setCell ⟨g, 5, none⟩ x5).setCell ⟨g, 6, none⟩ x6).cell? ⟨g1, 2, none⟩ = some v2 ∧ (((((((w.setCell ⟨g, 0, none⟩ x0).setCell ⟨g, 1, none⟩ x1).setCell ⟨g, 2, none⟩ x2).setCell ⟨g, 3, none⟩ x3).setCell ⟨g, 4, none⟩ x4).setCell ⟨g, 5, none⟩ x5).setCell ⟨g, 6, none⟩ x6).cell? ⟨g1, 3, none⟩ = some v3 ∧ (((((((w.setCell ⟨g, 0, none⟩ x0).setCell ⟨g, 1, none⟩ x1).setCell ⟨g, 2, none⟩ x2).setCell ⟨g, 3, none⟩ x3).setCell ⟨g, 4, none⟩ x4).setCell ⟨g, 5, none⟩ x5).setCell ⟨g, 6, none⟩ x6).cell? ⟨g1, 4, none⟩ = some v4 ∧ (((((((w.setCell ⟨g, 0, none⟩ x0).setCell ⟨g, 1, none⟩ x1).setCell ⟨g, 2, none⟩ x2).setCell ⟨g, 3, none⟩ x3).setCell ⟨g, 4, none⟩ x4).setCell ⟨g, 5, none⟩ x5).setCell ⟨g, 6, none⟩ x6).cell? ⟨g1, 5, none⟩ = some v5 ∧ (((((((w.setCell ⟨g, 0, none⟩ x0).setCell ⟨g, 1, none⟩ x1).setCell ⟨g, 2, none⟩ x2).setCell ⟨g, 3, none⟩ x3).setCell ⟨g, 4, none⟩ x4).setCell ⟨g, 5, none⟩ x5).setCell ⟨g, 6, none⟩ x6).cell? ⟨g1, 6, none⟩ = some v6) ∧ (((((((w.setCell ⟨g, 0, none⟩ x0).setCell ⟨g, 1, none⟩ x1).setCell ⟨g, 2, none⟩ x2).setCell ⟨g, 3, none⟩ x3).setCell ⟨g, 4, none⟩ x4).setCell ⟨g, 5, none⟩ x5).setCell ⟨g, 6, none⟩ x6).cell? ⟨g2, 0, none⟩ = some u0 ∧ (((((((w.setCell ⟨g, 0, none⟩ x0).setCell ⟨g, 1, none⟩ x1).setCell ⟨g, 2, none⟩ x2).setCell ⟨g, 3, none⟩ x3).setCell ⟨g, 4, none⟩ x4).setCell ⟨g, 5, none⟩ x5).setCell ⟨g, 6, none⟩ x6).cell? ⟨g2, 1, none⟩ = some u1 ∧ (((((((w.setCell ⟨g, 0, none⟩ x0).setCell ⟨g, 1, none⟩ x1).setCell ⟨g, 2, none⟩ x2).setCell ⟨g, 3, none⟩ x3).setCell ⟨g, 4, none⟩ x4).setCell ⟨g, 5, none⟩ x5).setCell ⟨g, 6, none⟩ x6).cell? ⟨g2, 2, none⟩ = some u2 ∧ (((((((w.setCell ⟨g, 0, none⟩ x0).setCell ⟨g, 1, none⟩ x1).setCell ⟨g, 2, none⟩ x2).setCell ⟨g, 3, none⟩ x3).setCell ⟨g, 4, none⟩ x4).setCell ⟨g, 5, none⟩ x5).setCell ⟨g, 6, none⟩ x6).cell? ⟨g2, 3, none⟩ = some u3 ∧ (((((((w.setCell ⟨g, 0, none⟩ x0).setCell ⟨g, 1, none⟩ x1).setCell ⟨g, 2, none⟩ x2).setCell ⟨g, 3, none⟩ x3).setCell ⟨g, 4, none⟩ x4).setCell ⟨g, 5, none⟩ x5).setCell ⟨g, 6, none⟩ x6).cell? ⟨g2, 4, none⟩ = some u4 ∧ (((((((w.setCell ⟨g, 0, none⟩ x0).setCell ⟨g, 1, none⟩ x1).setCell ⟨g, 2, none⟩ x2).setCell ⟨g, 3, none⟩ x3).setCell ⟨g, 4, none⟩ x4).setCell ⟨g, 5, none⟩ x5).setCell ⟨g, 6, none⟩ x6).cell? ⟨g2, 5, none⟩ = some u5 ∧ (((((((w.setCell ⟨g, 0, none⟩ x0).setCell ⟨g, 1, none⟩ x1).setCell ⟨g, 2, none⟩ x2).setCell ⟨g, 3, none⟩ x3).setCell ⟨g, 4, none⟩ x4).setCell ⟨g, 5, none⟩ x5).setCell ⟨g, 6, none⟩ x6).cell? ⟨g2, 6, none⟩ = some u6 := by
  have ne (a i j : Nat) (n : a ≠ g) : (⟨g, i, none⟩ : Addr) ≠ ⟨a, j, none⟩ := fun e => n (by injection e with e1; exact e1.symm)
  have key (a j : Nat) (n : a ≠ g) : (((((((w.setCell ⟨g, 0, none⟩ x0).setCell ⟨g, 1, none⟩ x1).setCell ⟨g, 2, none⟩ x2).setCell ⟨g, 3, none⟩ x3).setCell ⟨g, 4, none⟩ x4).setCell ⟨g, 5, none⟩ x5).setCell ⟨g, 6, none⟩ x6).cell? ⟨a, j, none⟩ = w.cell? ⟨a, j, none⟩ := by
    rw [cell_set_ne (ne a 6 j n), cell_set_ne (ne a 5 j n), cell_set_ne (ne a 4 j n), cell_set_ne (ne a 3 j n), cell_set_ne (ne a 2 j n), cell_set_ne (ne a 1 j n), cell_set_ne (ne a 0 j n)]
  simp only [key _ _ n1, key _ _ n2]
  exact h

end Go.Proofs.YtdidocdpjiiedaaGreatDoor
end
