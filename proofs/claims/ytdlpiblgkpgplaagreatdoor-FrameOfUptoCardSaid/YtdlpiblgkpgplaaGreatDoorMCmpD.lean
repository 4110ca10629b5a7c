/-
  Walks: dyadic.shifted, compare, Cmp, of valid numbers.
  Walks: dyadic.Cmp, of valid numbers.
  Numbers and intervals as they come, valid or not; dyadic.Valid, Cmp of these.
  Walks: interval.Valid.
  Walks: interval.Inside, Interior, Equal, of valid intervals other than All.
  Walks: slices.IndexFunc, ContainsFunc at []api.Dyadic.
  Walks: interval.known.
  Walks: interval.less, more, known, Whole.
  Walks: interval.Hull, Meet, of valid intervals other than All.
-/
import Derived.Test.YtdlpiblgkpgplaaGreatDoorMDyA
import Derived.Test.YtdlpiblgkpgplaaGreatDoorMNum
section
namespace Go.Proofs.YtdlpiblgkpgplaaGreatDoor
open Go.RowKit

theorem keep3 {w w' : World} (k : Kp w w') {p0 p1 p2 : Addr} {v0 v1 v2 : Value} (h : w.cell? p0 = some v0 ∧ w.cell? p1 = some v1 ∧ w.cell? p2 = some v2) : w'.cell? p0 = some v0 ∧ w'.cell? p1 = some v1 ∧ w'.cell? p2 = some v2 :=
  let ⟨h0, h1, h2⟩ := h
  ⟨k.cell h0, k.cell h1, k.cell h2⟩
theorem keep6 {w w' : World} (k : Kp w w') {p0 p1 p2 p3 p4 p5 : Addr} {v0 v1 v2 v3 v4 v5 : Value} (h : w.cell? p0 = some v0 ∧ w.cell? p1 = some v1 ∧ w.cell? p2 = some v2 ∧ w.cell? p3 = some v3 ∧ w.cell? p4 = some v4 ∧ w.cell? p5 = some v5) : w'.cell? p0 = some v0 ∧ w'.cell? p1 = some v1 ∧ w'.cell? p2 = some v2 ∧ w'.cell? p3 = some v3 ∧ w'.cell? p4 = some v4 ∧ w'.cell? p5 = some v5 :=
  let ⟨h0, h1, h2, h3, h4, h5⟩ := h
  ⟨k.cell h0, k.cell h1, k.cell h2, k.cell h3, k.cell h4, k.cell h5⟩
set_option maxHeartbeats 2000000 in
theorem shifted_ok (d : Dy) (a : Option Addr) (c : Nat) (n : Int) (w : World) (h : DyAt w d a c) (h0 : 0 ≤ n) (hn : n ≤ 65536) (hv : (limbs (d.m * 2 ^ n.toNat)).length ≤ 256) :
    Calls Tryz.prog 122 #[.slice a (limbs d.m).length c, .int .i64 n] w (Shows w (limbs (d.m * 2 ^ n.toNat))) := by
  have H := Shl_any a (limbs d.m) c n w h.2.1 (by have := ok_len h.1; omega) h.2.2.1 h.2.2.2 h0 hn (by rw [val_limbs]; exact hv)
  rw [val_limbs] at H
  have Hs := Lib.hid H
  clear H
  go_enter Tryz.func122, Tryz.ntmps122
  go_wp2_with fail
  refine Hs.out.mono ?_
  rintro e w2 ⟨a2, c2, rfl, h1, h2, h3, h4⟩
  go_wp2_with fail
  go_ret
  exact ⟨a2, c2, rfl, h3, h1, h2, h4⟩

theorem av_bits {d : Dy} (h : d.ok) (h0 : d.m ≠ 0) : (bits d.av : Int) = topI d + 16384 := by
  have he := ok_e h
  unfold Dy.av topI
  rw [bits_mul_pow h0, if_neg h0]; omega
theorem av_lt {d f : Dy} (hd : d.ok) (hf : f.ok) (hd0 : d.m ≠ 0) (hf0 : f.m ≠ 0) (h : topI d < topI f) : d.av < f.av := by
  have h1 := av_bits hd hd0
  have h2 := av_bits hf hf0
  have h3 : bits d.av < bits f.av := by omega
  apply Classical.byContradiction; intro hn
  have := bits_mono (show f.av ≤ d.av by omega)
  omega
theorem av_shift {d : Dy} (k : Int) (h0 : -16384 ≤ k) (hk : k ≤ d.e) : d.av = d.m * 2 ^ (d.e - k).toNat * 2 ^ (k + 16384).toNat := by
  unfold Dy.av
  rw [Nat.mul_assoc, ← Nat.pow_add]; congr 2; omega
theorem cmpN_mul {m n p : Nat} (hp : 0 < p) : cmpN (m * p) (n * p) = cmpN m n := by
  unfold cmpN
  simp only [Nat.mul_lt_mul_right hp, Nat.mul_left_inj (Nat.ne_of_gt hp)]

set_option maxHeartbeats 2000000 in
theorem compare_ok (d f : Dy) (a b : Option Addr) (c k : Nat) (w : World) (hd : DyAt w d a c) (hf : DyAt w f b k) (hd0 : d.m ≠ 0) (hf0 : f.m ≠ 0) :
    Calls Tryz.prog 90 #[.agg #[.bool d.neg, .slice a (limbs d.m).length c, .int .i64 d.e], .agg #[.bool f.neg, .slice b (limbs f.m).length k, .int .i64 f.e]] w fun e w' => e = .returned (.int .i64 (cmpN d.av f.av)) ∧ Kp w w' := by
  go_enter Tryz.func90, Tryz.ntmps90
  go_wp2_with fail
  generalize hW : ((w.alloc _).alloc _) = W at *
  have hk : Kp w W := hW ▸ ((Kp.refl w).alloc _).alloc _
  have hd1 := (hd.kp hk).drew
  have hf1 := (hf.kp hk).drew
  have hS : W.cell? ⟨w.heap.size, 0, none⟩ = some (.bool d.neg) ∧ W.cell? ⟨w.heap.size, 1, none⟩ = some (.slice a (limbs d.m).length c) ∧ W.cell? ⟨w.heap.size, 2, none⟩ = some (.int .i64 d.e) ∧ W.cell? ⟨w.heap.size + 1, 0, none⟩ = some (.bool f.neg) ∧ W.cell? ⟨w.heap.size + 1, 1, none⟩ = some (.slice b (limbs f.m).length k) ∧ W.cell? ⟨w.heap.size + 1, 2, none⟩ = some (.int .i64 f.e) := by rw [← hW]; simp
  clear hW
  go_region_held3 (fun w' => w'.cell? ⟨w.heap.size, 0, none⟩ = some (.bool d.neg) ∧ w'.cell? ⟨w.heap.size, 1, none⟩ = some (.slice a (limbs d.m).length c) ∧ w'.cell? ⟨w.heap.size, 2, none⟩ = some (.int .i64 d.e) ∧ w'.cell? ⟨w.heap.size + 1, 0, none⟩ = some (.bool f.neg) ∧ w'.cell? ⟨w.heap.size + 1, 1, none⟩ = some (.slice b (limbs f.m).length k) ∧ w'.cell? ⟨w.heap.size + 1, 2, none⟩ = some (.int .i64 f.e)) (first | assumption | exact keep6 (by assumption) (by assumption))
    (first
      | (go_at_call_of 121 (Value.agg #[.bool d.neg, .slice a (limbs d.m).length c, .int .i64 d.e]); refine (Top_ok d a c _ hd1).mono ?_; rintro e w2 ⟨rfl, hk2⟩)
      | (go_at_call_of 121 (Value.agg #[.bool f.neg, .slice b (limbs f.m).length k, .int .i64 f.e]); refine (Top_ok f b k _ (hf1.kp (by assumption))).mono ?_; rintro e w3 ⟨rfl, hk3⟩))
  rcases Int.lt_trichotomy (topI d) (topI f) with ht | ht | ht
  · have H := Lib.hid (cmpN_lt (av_lt hd.1 hf.1 hd0 hf0 ht)).symm
    go_wp2_with fail
    go_ret
    exact ⟨ret_int H.out, (hk.drew.trans hk2).trans hk3⟩
  · have hE1 : min d.e f.e ≤ d.e := Int.min_le_left _ _
    have hE2 : min d.e f.e ≤ f.e := Int.min_le_right _ _
    have hE3 : min d.e f.e = d.e ∨ min d.e f.e = f.e := by omega
    have hed := ok_e hd.1
    have hef := ok_e hf.1
    have bd := av_bits hd.1 hd0
    have bf := av_bits hf.1 hf0
    have hfin : cmpN (d.m * 2 ^ (d.e - min d.e f.e).toNat) (f.m * 2 ^ (f.e - min d.e f.e).toNat) = cmpN d.av f.av := by
      rw [av_shift (d := d) (min d.e f.e) (by omega) hE1, av_shift (d := f) (min d.e f.e) (by omega) hE2, cmpN_mul (two_pow_pos _)]
    have hl1 : (limbs (d.m * 2 ^ (d.e - min d.e f.e).toNat)).length ≤ 256 := by
      apply limbs_len_bits
      rw [bits_mul_pow hd0]
      have hd4 : bits d.m ≤ 4096 := by rcases hd.1 with ⟨h, _⟩ | h <;> omega
      have hf4 : bits f.m ≤ 4096 := by rcases hf.1 with ⟨h, _⟩ | h <;> omega
      unfold topI at ht
      rw [if_neg hd0, if_neg hf0] at ht
      omega
    have hl2 : (limbs (f.m * 2 ^ (f.e - min d.e f.e).toNat)).length ≤ 256 := by
      apply limbs_len_bits
      rw [bits_mul_pow hf0]
      have hd4 : bits d.m ≤ 4096 := by rcases hd.1 with ⟨h, _⟩ | h <;> omega
      have hf4 : bits f.m ≤ 4096 := by rcases hf.1 with ⟨h, _⟩ | h <;> omega
      unfold topI at ht
      rw [if_neg hd0, if_neg hf0] at ht
      omega
    have Hfin := Lib.hid hfin
    have h1 : ¬ topI d < topI f := by omega
    have h2 : ¬ topI f < topI d := by omega
    clear ht hfin bd bf
    have hk4 := (hk.drew.trans hk2).trans hk3
    have hS3 := keep6 hk3 (keep6 hk2 hS)
    clear hS
    go_wp2_with fail
    generalize min d.e f.e = E at *
    have Hl1 := Lib.hid hl1
    have Hl2 := Lib.hid hl2
    have e1 : IntKind.i64.wrap (d.e - E) = d.e - E := IntWalk.i64_in _ (by omega)
    have e2 : IntKind.i64.wrap (f.e - E) = f.e - E := IntWalk.i64_in _ (by omega)
    have hd3 := (hd.kp hk4).drew
    have hf3 := (hf.kp hk4).drew
    have z1 : 0 ≤ d.e - E := by omega
    have z2 : 0 ≤ f.e - E := by omega
    have z3 : d.e - E ≤ 65536 := by omega
    have z4 : f.e - E ≤ 65536 := by omega
    clear hl1 hl2 hE3
    go_region_held3 (fun w' => w'.cell? ⟨w.heap.size, 0, none⟩ = some (.bool d.neg) ∧ w'.cell? ⟨w.heap.size, 1, none⟩ = some (.slice a (limbs d.m).length c) ∧ w'.cell? ⟨w.heap.size, 2, none⟩ = some (.int .i64 d.e) ∧ w'.cell? ⟨w.heap.size + 1, 0, none⟩ = some (.bool f.neg) ∧ w'.cell? ⟨w.heap.size + 1, 1, none⟩ = some (.slice b (limbs f.m).length k) ∧ w'.cell? ⟨w.heap.size + 1, 2, none⟩ = some (.int .i64 f.e)) (first | assumption | exact keep6 (by assumption) (by assumption))
      (first
        | (go_at_call_of 122 (Value.slice a (limbs d.m).length c); refine (shifted_ok d a c _ _ hd3 z1 z3 Hl1.out).mono ?_; rintro e w5 ⟨a5, c5, rfl, r5, l5, m5, hk5⟩)
        | (go_at_call_of 122 (Value.slice b (limbs f.m).length k); refine (shifted_ok f b k _ _ (hf3.kp (by assumption)) z2 z4 Hl2.out).mono ?_; rintro e w6 ⟨a6, c6, rfl, r6, l6, m6, hk6⟩)
        | (go_at_call 124; refine (cmp_any _ _ _ _ _ _ _ (r5.kp (by assumption)) r6 l5 l6 m5 m6).mono ?_; rintro e w7 ⟨rfl, hk7⟩))
    go_wp2_with fail
    go_ret
    refine ⟨ret_int ?_, (((hk4.drew).trans hk5).trans hk6).trans hk7⟩
    rw [← Hfin.out, val_limbs, val_limbs]
  · have H := Lib.hid (cmpN_gt (av_lt hf.1 hd.1 hf0 hd0 ht)).symm
    have h1 : ¬ topI d < topI f := by omega
    go_wp2_with fail
    go_ret
    exact ⟨ret_int H.out, (hk.drew.trans hk2).trans hk3⟩
end Go.Proofs.YtdlpiblgkpgplaaGreatDoor
end

section
namespace Go.Proofs.YtdlpiblgkpgplaaGreatDoor
open Go.RowKit

/-- the comparison of two integers -/
def cmpZ (x y : Int) : Int := if x < y then -1 else if x = y then 0 else 1
theorem cmpZ_lt {x y : Int} : cmpZ x y < 0 ↔ x < y := by unfold cmpZ; split <;> (try split) <;> omega
theorem cmpZ_gt {x y : Int} : 0 < cmpZ x y ↔ y < x := by unfold cmpZ; split <;> (try split) <;> omega
theorem cmpZ_eq {x y : Int} : cmpZ x y = 0 ↔ x = y := by unfold cmpZ; split <;> (try split) <;> omega
theorem cmpZ_bound (x y : Int) : -1 ≤ cmpZ x y ∧ cmpZ x y ≤ 1 := by unfold cmpZ; split <;> (try split) <;> omega
theorem cmpN_Z (m n : Nat) : cmpN m n = cmpZ m n := by
  unfold cmpZ
  rcases Nat.lt_trichotomy m n with h | h | h
  · rw [cmpN_lt h, if_pos (by omega)]
  · rw [cmpN_eq h, if_neg (by omega), if_pos (by omega)]
  · rw [cmpN_gt h, if_neg (by omega), if_neg (by omega)]
theorem sgn_range (d : Dy) : sgn d = -1 ∨ sgn d = 0 ∨ sgn d = 1 := by
  unfold sgn; split
  · exact .inr (.inl rfl)
  · split
    · exact .inl rfl
    · exact .inr (.inr rfl)
theorem cmp_sgn_lt {d f : Dy} (h : sgn d < sgn f) : cmpZ d.iv f.iv = -1 := by
  have h1 := sgn_iv d
  have h2 := sgn_iv f
  have h3 := sgn_range d
  have h4 := sgn_range f
  unfold cmpZ
  rw [if_pos]
  omega
theorem cmp_sgn_gt {d f : Dy} (h : sgn f < sgn d) : cmpZ d.iv f.iv = 1 := by
  have h1 := sgn_iv d
  have h2 := sgn_iv f
  have h3 := sgn_range d
  have h4 := sgn_range f
  unfold cmpZ
  rw [if_neg (by omega), if_neg (by omega)]
theorem cmp_sgn_zero {d f : Dy} (h : sgn d = sgn f) (h0 : sgn d = 0) : cmpZ d.iv f.iv = 0 := by
  have h1 := sgn_iv d
  have h2 := sgn_iv f
  rw [cmpZ_eq]; omega
theorem cmp_sgn_eq {d f : Dy} (h : sgn d = sgn f) (h0 : sgn d ≠ 0) : cmpZ d.iv f.iv = sgn d * cmpN d.av f.av := by
  have hm : d.m ≠ 0 := fun h1 => h0 (by unfold sgn; rw [if_pos h1])
  have hf : f.m ≠ 0 := fun h1 => h0 (by rw [h]; unfold sgn; rw [if_pos h1])
  rw [cmpN_Z]
  unfold sgn at h ⊢
  rw [if_neg hm, if_neg hf] at h
  rw [if_neg hm]
  cases hd : d.neg with
  | false =>
    rw [hd] at h
    cases hg : f.neg with
    | true => rw [hg] at h; simp at h
    | false => rw [Dy.iv_pos hd, Dy.iv_pos hg]; simp
  | true =>
    rw [hd] at h
    cases hg : f.neg with
    | false => rw [hg] at h; simp at h
    | true =>
      rw [Dy.iv_neg hd, Dy.iv_neg hg]
      unfold cmpZ
      simp only [if_true]
      split <;> (try split) <;> (try split) <;> (try split) <;> omega

set_option maxHeartbeats 4000000 in
theorem Cmp_ok (d f : Dy) (a b : Option Addr) (c k : Nat) (w : World) (hd : DyAt w d a c) (hf : DyAt w f b k) :
    Calls Tryz.prog 44 #[.agg #[.bool d.neg, .slice a (limbs d.m).length c, .int .i64 d.e], .agg #[.bool f.neg, .slice b (limbs f.m).length k, .int .i64 f.e]] w fun e w' => e = .returned (.int .i64 (cmpZ d.iv f.iv)) ∧ Kp w w' := by
  have hs1 := sgn_range d
  have hs2 := sgn_range f
  go_enter Tryz.func44, Tryz.ntmps44
  go_wp2_with fail
  generalize hW : ((w.alloc _).alloc _) = W at *
  have hk : Kp w W := hW ▸ ((Kp.refl w).alloc _).alloc _
  have hS : W.cell? ⟨w.heap.size, 0, none⟩ = some (.bool d.neg) ∧ W.cell? ⟨w.heap.size, 1, none⟩ = some (.slice a (limbs d.m).length c) ∧ W.cell? ⟨w.heap.size, 2, none⟩ = some (.int .i64 d.e) ∧ W.cell? ⟨w.heap.size + 1, 0, none⟩ = some (.bool f.neg) ∧ W.cell? ⟨w.heap.size + 1, 1, none⟩ = some (.slice b (limbs f.m).length k) ∧ W.cell? ⟨w.heap.size + 1, 2, none⟩ = some (.int .i64 f.e) := by rw [← hW]; simp
  clear hW
  refine (Valid_ok d a c _ (hd.kp hk)).mono ?_
  rintro e w1 ⟨rfl, hk1⟩
  have hS1 := keep6 hk1 hS
  clear hS
  go_wp2_with fail
  refine (Valid_ok f b k _ (hf.kp (hk.trans hk1))).mono ?_
  rintro e w2 ⟨rfl, hk2⟩
  have hS2 := keep6 hk2 hS1
  clear hS1
  have hk3 := (hk.trans hk1).trans hk2
  clear hk hk1 hk2
  go_wp2_with fail
  have hd1 := (hd.kp hk3).drew
  have hf1 := (hf.kp hk3).drew
  go_region_held3 (fun w' => w'.cell? ⟨w.heap.size, 0, none⟩ = some (.bool d.neg) ∧ w'.cell? ⟨w.heap.size, 1, none⟩ = some (.slice a (limbs d.m).length c) ∧ w'.cell? ⟨w.heap.size, 2, none⟩ = some (.int .i64 d.e) ∧ w'.cell? ⟨w.heap.size + 1, 0, none⟩ = some (.bool f.neg) ∧ w'.cell? ⟨w.heap.size + 1, 1, none⟩ = some (.slice b (limbs f.m).length k) ∧ w'.cell? ⟨w.heap.size + 1, 2, none⟩ = some (.int .i64 f.e)) (first | assumption | exact keep6 (by assumption) (by assumption))
    (first
      | (go_at_call_of 89 (Value.agg #[.bool d.neg, .slice a (limbs d.m).length c, .int .i64 d.e]); refine (Sign_ok d a c _ hd1).mono ?_; rintro e w4 ⟨rfl, hk4⟩)
      | (go_at_call_of 89 (Value.agg #[.bool f.neg, .slice b (limbs f.m).length k, .int .i64 f.e]); refine (Sign_ok f b k _ (hf1.kp (by assumption))).mono ?_; rintro e w5 ⟨rfl, hk5⟩))
  have hk6 := (hk3.drew.trans hk4).trans hk5
  have hS6 := keep6 hk5 (keep6 hk4 hS2)
  clear hS2
  rcases Int.lt_trichotomy (sgn d) (sgn f) with ht | ht | ht
  · have H := Lib.hid (cmp_sgn_lt ht).symm
    go_wp2_with fail
    go_ret
    exact ⟨ret_int H.out, hk6⟩
  · have h1 : ¬ sgn d < sgn f := by omega
    have h2 : ¬ sgn f < sgn d := by omega
    by_cases h0 : sgn d = 0
    · have H := Lib.hid (cmp_sgn_zero ht h0).symm
      have hz : (sgn d == 0) = true := beq_iff_eq.2 h0
      clear ht h0
      go_wp2_with fail
      go_ret
      exact ⟨ret_int H.out, hk6⟩
    · have H := Lib.hid (cmp_sgn_eq ht h0).symm
      have hz : (sgn d == 0) = false := beq_eq_false_iff_ne.2 h0
      have hm : d.m ≠ 0 := fun h1 => h0 (by unfold sgn; rw [if_pos h1])
      have hg : f.m ≠ 0 := fun h1 => h0 (by rw [ht]; unfold sgn; rw [if_pos h1])
      have hcb : -1 ≤ cmpN d.av f.av ∧ cmpN d.av f.av ≤ 1 := by rw [cmpN_Z]; exact cmpZ_bound _ _
      clear ht h0
      go_wp2_with fail
      refine (compare_ok d f a b c k _ (hd.kp hk6) (hf.kp hk6) hm hg).mono ?_
      rintro e w7 ⟨rfl, hk7⟩
      go_wp2_with fail
      go_ret
      refine ⟨ret_int (.trans ?_ H.out), hk6.trans hk7⟩
      have hp : -1 ≤ sgn d * cmpN d.av f.av ∧ sgn d * cmpN d.av f.av ≤ 1 := by rcases hs1 with h | h | h <;> rw [h] <;> omega
      unfold wrap64; omega

  · have H := Lib.hid (cmp_sgn_gt ht).symm
    have h1 : ¬ sgn d < sgn f := by omega
    go_wp2_with fail
    go_ret
    exact ⟨ret_int H.out, hk6⟩
end Go.Proofs.YtdlpiblgkpgplaaGreatDoor
end

section
namespace Go.Proofs.YtdlpiblgkpgplaaGreatDoor
open Go.RowKit

/-- the fields of a number, valid or not -/
structure RD where
  neg : Bool
  a : Option Addr
  xs : List Nat
  c : Nat
  e : Int
/-- it can be read -/
def RD.rd (w : World) (x : RD) : Prop := Rd w x.a x.xs ∧ x.xs.length ≤ x.c ∧ x.c ≤ maxLen ∧ x.xs.length ≤ 1100000 ∧ I64 x.e
theorem RD.rd.kp {w w' : World} {x : RD} (h : x.rd w) (k : Kp w w') : x.rd w' := ⟨h.1.kp k, h.2⟩
theorem RD.rd.drew {w : World} {x : RD} (h : x.rd w) : x.rd w.drew := h.kp (Kp.refl w).drew
/-- is it valid? -/
def RD.vl (x : RD) : Bool := vld x.neg x.xs x.e
/-- the number -/
def RD.dy (x : RD) : Dy := ⟨x.neg, val x.xs, x.e⟩
/-- its value, in steps of 2^-16384 -/
def RD.iv (x : RD) : Int := x.dy.iv
theorem RD.limbs {w : World} {x : RD} (h : x.rd w) (hv : x.vl = true) : limbs x.dy.m = x.xs := (vld_ok h.1.lt32 hv).2.1
theorem RD.at {w : World} {x : RD} (h : x.rd w) (hv : x.vl = true) : DyAt w x.dy x.a x.c := by
  have h1 := vld_ok h.1.lt32 hv
  have h2 := RD.limbs h hv
  exact ⟨h1.1, by rw [h2]; exact h.1, by rw [h2]; exact h.2.1, h.2.2.1⟩

theorem Valid_raw (x : RD) (w : World) (h : x.rd w) :
    Calls Tryz.prog 24 #[.agg #[.bool x.neg, .slice x.a x.xs.length x.c, .int .i64 x.e]] w fun e w' => e = .returned (.bool x.vl) ∧ Kp w w' :=
  Valid_any x.neg x.a x.xs x.c x.e w h.1 h.2.1 h.2.2.1 h.2.2.2.1 h.2.2.2.2
theorem Cmp_raw (x y : RD) (w : World) (hx : x.rd w) (hy : y.rd w) (vx : x.vl = true) (vy : y.vl = true) :
    Calls Tryz.prog 44 #[.agg #[.bool x.neg, .slice x.a x.xs.length x.c, .int .i64 x.e], .agg #[.bool y.neg, .slice y.a y.xs.length y.c, .int .i64 y.e]] w fun e w' => e = .returned (.int .i64 (cmpZ x.iv y.iv)) ∧ Kp w w' := by
  have H := Cmp_ok x.dy y.dy x.a y.a x.c y.c w (RD.at hx vx) (RD.at hy vy)
  rw [RD.limbs hx vx, RD.limbs hy vy] at H
  exact H

/-- the fields of an interval, valid or not -/
structure RI where
  lo : RD
  hi : RD
  all : Bool
def RI.rd (w : World) (x : RI) : Prop := x.lo.rd w ∧ x.hi.rd w
theorem RI.rd.kp {w w' : World} {x : RI} (h : x.rd w) (k : Kp w w') : x.rd w' := ⟨h.1.kp k, h.2.kp k⟩
theorem RI.rd.drew {w : World} {x : RI} (h : x.rd w) : x.rd w.drew := h.kp (Kp.refl w).drew
/-- are all fields 0? -/
def RD.zr (x : RD) : Bool := !x.neg && (decide (x.xs.length = 0) && decide (x.e = 0))
/-- is an interval valid? -/
def RI.vl (x : RI) : Bool := if x.all then x.lo.zr && x.hi.zr else x.lo.vl && (x.hi.vl && decide (cmpZ x.lo.iv x.hi.iv ≤ 0))

set_option maxHeartbeats 2000000 in
theorem zero_raw (x : RD) (w : World) :
    Calls Tryz.prog 88 #[.agg #[.bool x.neg, .slice x.a x.xs.length x.c, .int .i64 x.e]] w fun e w' => e = .returned (.bool x.zr) ∧ Kp w w' := by
  have H := Lib.hid (show x.zr = (!x.neg && (decide (x.xs.length = 0) && decide (x.e = 0))) from rfl)
  go_enter Tryz.func88, Tryz.ntmps88
  cases hn : x.neg with
  | true =>
    rw [hn] at H
    clear hn
    go_wp2_with fail
    go_ret
    exact ⟨ret_bool H.out.symm, ((Kp.refl w).alloc _)⟩
  | false =>
    rw [hn] at H
    clear hn
    by_cases h0 : x.xs.length = 0
    · have hz : ((x.xs.length : Int) == 0) = true := beq_iff_eq.2 (by omega)
      rw [decide_eq_true h0] at H
      clear h0
      go_wp2_with fail
      go_ret
      exact ⟨ret_bool (by rw [H.out]; exact Bool.eq_iff_iff.2 (by simp)), ((Kp.refl w).alloc _)⟩
    · have hz : ((x.xs.length : Int) == 0) = false := beq_eq_false_iff_ne.2 (by omega)
      rw [decide_eq_false h0] at H
      clear h0
      go_wp2_with fail
      go_ret
      exact ⟨ret_bool (by rw [H.out]; simp), ((Kp.refl w).alloc _)⟩
end Go.Proofs.YtdlpiblgkpgplaaGreatDoor
end

section
namespace Go.Proofs.YtdlpiblgkpgplaaGreatDoor
open Go.RowKit

theorem keep7 {w w' : World} (k : Kp w w') {p0 p1 p2 p3 p4 p5 p6 : Addr} {v0 v1 v2 v3 v4 v5 v6 : Value} (h : w.cell? p0 = some v0 ∧ w.cell? p1 = some v1 ∧ w.cell? p2 = some v2 ∧ w.cell? p3 = some v3 ∧ w.cell? p4 = some v4 ∧ w.cell? p5 = some v5 ∧ w.cell? p6 = some v6) : w'.cell? p0 = some v0 ∧ w'.cell? p1 = some v1 ∧ w'.cell? p2 = some v2 ∧ w'.cell? p3 = some v3 ∧ w'.cell? p4 = some v4 ∧ w'.cell? p5 = some v5 ∧ w'.cell? p6 = some v6 :=
  let ⟨h0, h1, h2, h3, h4, h5, h6⟩ := h
  ⟨k.cell h0, k.cell h1, k.cell h2, k.cell h3, k.cell h4, k.cell h5, k.cell h6⟩

set_option maxHeartbeats 4000000 in
theorem IValid_raw (x : RI) (w : World) (h : x.rd w) :
    Calls Tryz.prog 43 #[.agg #[.bool x.lo.neg, .slice x.lo.a x.lo.xs.length x.lo.c, .int .i64 x.lo.e, .bool x.hi.neg, .slice x.hi.a x.hi.xs.length x.hi.c, .int .i64 x.hi.e, .bool x.all]] w fun e w' => e = .returned (.bool x.vl) ∧ Kp w w' := by
  have H := Lib.hid (show x.vl = if x.all then x.lo.zr && x.hi.zr else x.lo.vl && (x.hi.vl && decide (cmpZ x.lo.iv x.hi.iv ≤ 0)) from rfl)
  go_enter Tryz.func43, Tryz.ntmps43
  cases ha : x.all with
  | true =>
    rw [ha] at H
    clear ha
    go_wp2_with fail
    refine (zero_raw x.lo _).mono ?_
    rintro e w1 ⟨rfl, hk1⟩
    have hS := keep7 hk1 (show (w.alloc (.cells #[.bool x.lo.neg, .slice x.lo.a x.lo.xs.length x.lo.c, .int .i64 x.lo.e, .bool x.hi.neg, .slice x.hi.a x.hi.xs.length x.hi.c, .int .i64 x.hi.e, .bool true] 35)).cell? ⟨w.heap.size, 0, none⟩ = some (.bool x.lo.neg) ∧ (w.alloc (.cells #[.bool x.lo.neg, .slice x.lo.a x.lo.xs.length x.lo.c, .int .i64 x.lo.e, .bool x.hi.neg, .slice x.hi.a x.hi.xs.length x.hi.c, .int .i64 x.hi.e, .bool true] 35)).cell? ⟨w.heap.size, 1, none⟩ = some (.slice x.lo.a x.lo.xs.length x.lo.c) ∧ (w.alloc (.cells #[.bool x.lo.neg, .slice x.lo.a x.lo.xs.length x.lo.c, .int .i64 x.lo.e, .bool x.hi.neg, .slice x.hi.a x.hi.xs.length x.hi.c, .int .i64 x.hi.e, .bool true] 35)).cell? ⟨w.heap.size, 2, none⟩ = some (.int .i64 x.lo.e) ∧ (w.alloc (.cells #[.bool x.lo.neg, .slice x.lo.a x.lo.xs.length x.lo.c, .int .i64 x.lo.e, .bool x.hi.neg, .slice x.hi.a x.hi.xs.length x.hi.c, .int .i64 x.hi.e, .bool true] 35)).cell? ⟨w.heap.size, 3, none⟩ = some (.bool x.hi.neg) ∧ (w.alloc (.cells #[.bool x.lo.neg, .slice x.lo.a x.lo.xs.length x.lo.c, .int .i64 x.lo.e, .bool x.hi.neg, .slice x.hi.a x.hi.xs.length x.hi.c, .int .i64 x.hi.e, .bool true] 35)).cell? ⟨w.heap.size, 4, none⟩ = some (.slice x.hi.a x.hi.xs.length x.hi.c) ∧ (w.alloc (.cells #[.bool x.lo.neg, .slice x.lo.a x.lo.xs.length x.lo.c, .int .i64 x.lo.e, .bool x.hi.neg, .slice x.hi.a x.hi.xs.length x.hi.c, .int .i64 x.hi.e, .bool true] 35)).cell? ⟨w.heap.size, 5, none⟩ = some (.int .i64 x.hi.e) ∧ (w.alloc (.cells #[.bool x.lo.neg, .slice x.lo.a x.lo.xs.length x.lo.c, .int .i64 x.lo.e, .bool x.hi.neg, .slice x.hi.a x.hi.xs.length x.hi.c, .int .i64 x.hi.e, .bool true] 35)).cell? ⟨w.heap.size, 6, none⟩ = some (.bool true) by simp)
    have hk2 := ((Kp.refl w).alloc _).trans hk1
    clear hk1
    cases hz : x.lo.zr with
    | false =>
      rw [hz] at H
      clear hz
      go_wp2_with fail
      go_ret
      exact ⟨ret_bool H.out.symm, hk2⟩
    | true =>
      rw [hz] at H
      clear hz
      go_wp2_with fail
      refine (zero_raw x.hi _).mono ?_
      rintro e w3 ⟨rfl, hk3⟩
      go_wp2_with fail
      go_ret
      exact ⟨ret_bool (by rw [H.out]; simp), hk2.trans hk3⟩
  | false =>
    rw [ha] at H
    clear ha
    go_wp2_with fail
    have hk0 := ((Kp.refl w).alloc (.cells #[.bool x.lo.neg, .slice x.lo.a x.lo.xs.length x.lo.c, .int .i64 x.lo.e, .bool x.hi.neg, .slice x.hi.a x.hi.xs.length x.hi.c, .int .i64 x.hi.e, .bool false] 35))
    refine (Valid_raw x.lo _ (h.1.kp hk0)).mono ?_
    rintro e w1 ⟨rfl, hk1⟩
    have hS := keep7 hk1 (show (w.alloc (.cells #[.bool x.lo.neg, .slice x.lo.a x.lo.xs.length x.lo.c, .int .i64 x.lo.e, .bool x.hi.neg, .slice x.hi.a x.hi.xs.length x.hi.c, .int .i64 x.hi.e, .bool false] 35)).cell? ⟨w.heap.size, 0, none⟩ = some (.bool x.lo.neg) ∧ (w.alloc (.cells #[.bool x.lo.neg, .slice x.lo.a x.lo.xs.length x.lo.c, .int .i64 x.lo.e, .bool x.hi.neg, .slice x.hi.a x.hi.xs.length x.hi.c, .int .i64 x.hi.e, .bool false] 35)).cell? ⟨w.heap.size, 1, none⟩ = some (.slice x.lo.a x.lo.xs.length x.lo.c) ∧ (w.alloc (.cells #[.bool x.lo.neg, .slice x.lo.a x.lo.xs.length x.lo.c, .int .i64 x.lo.e, .bool x.hi.neg, .slice x.hi.a x.hi.xs.length x.hi.c, .int .i64 x.hi.e, .bool false] 35)).cell? ⟨w.heap.size, 2, none⟩ = some (.int .i64 x.lo.e) ∧ (w.alloc (.cells #[.bool x.lo.neg, .slice x.lo.a x.lo.xs.length x.lo.c, .int .i64 x.lo.e, .bool x.hi.neg, .slice x.hi.a x.hi.xs.length x.hi.c, .int .i64 x.hi.e, .bool false] 35)).cell? ⟨w.heap.size, 3, none⟩ = some (.bool x.hi.neg) ∧ (w.alloc (.cells #[.bool x.lo.neg, .slice x.lo.a x.lo.xs.length x.lo.c, .int .i64 x.lo.e, .bool x.hi.neg, .slice x.hi.a x.hi.xs.length x.hi.c, .int .i64 x.hi.e, .bool false] 35)).cell? ⟨w.heap.size, 4, none⟩ = some (.slice x.hi.a x.hi.xs.length x.hi.c) ∧ (w.alloc (.cells #[.bool x.lo.neg, .slice x.lo.a x.lo.xs.length x.lo.c, .int .i64 x.lo.e, .bool x.hi.neg, .slice x.hi.a x.hi.xs.length x.hi.c, .int .i64 x.hi.e, .bool false] 35)).cell? ⟨w.heap.size, 5, none⟩ = some (.int .i64 x.hi.e) ∧ (w.alloc (.cells #[.bool x.lo.neg, .slice x.lo.a x.lo.xs.length x.lo.c, .int .i64 x.lo.e, .bool x.hi.neg, .slice x.hi.a x.hi.xs.length x.hi.c, .int .i64 x.hi.e, .bool false] 35)).cell? ⟨w.heap.size, 6, none⟩ = some (.bool false) by simp)
    have hk2 := hk0.trans hk1
    clear hk0 hk1
    cases hz : x.lo.vl with
    | false =>
      rw [hz] at H
      clear hz
      go_wp2_with fail
      go_ret
      exact ⟨ret_bool H.out.symm, hk2⟩
    | true =>
      rw [hz] at H
      have Hz := Lib.hid hz
      clear hz
      go_wp2_with fail
      refine (Valid_raw x.hi _ (h.2.kp hk2)).mono ?_
      rintro e w3 ⟨rfl, hk3⟩
      have hS2 := keep7 hk3 hS
      have hk4 := hk2.trans hk3
      clear hk2 hk3 hS
      cases hy : x.hi.vl with
      | false =>
        rw [hy] at H
        clear hy
        go_wp2_with fail
        go_ret
        exact ⟨ret_bool H.out.symm, hk4⟩
      | true =>
        rw [hy] at H
        have Hy := Lib.hid hy
        clear hy
        go_wp2_with fail
        refine (Cmp_raw x.lo x.hi _ (h.1.kp hk4) (h.2.kp hk4) Hz.out Hy.out).mono ?_
        rintro e w5 ⟨rfl, hk5⟩
        go_wp2_with fail
        go_ret
        exact ⟨ret_bool H.out.symm, hk4.trans hk5⟩
end Go.Proofs.YtdlpiblgkpgplaaGreatDoor
end

section
namespace Go.Proofs.YtdlpiblgkpgplaaGreatDoor
open Go.RowKit

/-- a valid interval other than All -/
def RI.ok (w : World) (x : RI) : Prop := x.rd w ∧ x.all = false ∧ x.vl = true
theorem RI.ok.kp {w w' : World} {x : RI} (h : x.ok w) (k : Kp w w') : x.ok w' := ⟨h.1.kp k, h.2⟩
theorem RI.ok.drew {w : World} {x : RI} (h : x.ok w) : x.ok w.drew := h.kp (Kp.refl w).drew
theorem RI.ok.parts {w : World} {x : RI} (h : x.ok w) : x.lo.vl = true ∧ x.hi.vl = true ∧ x.lo.iv ≤ x.hi.iv := by
  obtain ⟨_, h1, h2⟩ := h
  unfold RI.vl at h2
  rw [h1] at h2
  simp only [Bool.false_eq_true, if_false, Bool.and_eq_true, decide_eq_true_eq] at h2
  refine ⟨h2.1, h2.2.1, ?_⟩
  have := h2.2.2
  have h3 := @cmpZ_gt x.lo.iv x.hi.iv
  omega
/-- a number that is valid -/
def RD.ok (w : World) (x : RD) : Prop := x.rd w ∧ x.vl = true
theorem RD.ok.kp {w w' : World} {x : RD} (h : x.ok w) (k : Kp w w') : x.ok w' := ⟨h.1.kp k, h.2⟩
theorem RI.ok.lo {w : World} {x : RI} (h : x.ok w) : x.lo.ok w := ⟨h.1.1, h.parts.1⟩
theorem RI.ok.hi {w : World} {x : RI} (h : x.ok w) : x.hi.ok w := ⟨h.1.2, h.parts.2.1⟩
theorem Cmp_rok (x y : RD) (w : World) (hx : x.ok w) (hy : y.ok w) :
    Calls Tryz.prog 44 #[.agg #[.bool x.neg, .slice x.a x.xs.length x.c, .int .i64 x.e], .agg #[.bool y.neg, .slice y.a y.xs.length y.c, .int .i64 y.e]] w fun e w' => e = .returned (.int .i64 (cmpZ x.iv y.iv)) ∧ Kp w w' := Cmp_raw x y w hx.1 hy.1 hx.2 hy.2
theorem IValid_ok (x : RI) (w : World) (h : x.ok w) :
    Calls Tryz.prog 43 #[.agg #[.bool x.lo.neg, .slice x.lo.a x.lo.xs.length x.lo.c, .int .i64 x.lo.e, .bool x.hi.neg, .slice x.hi.a x.hi.xs.length x.hi.c, .int .i64 x.hi.e, .bool false]] w fun e w' => e = .returned (.bool true) ∧ Kp w w' := by
  have H := IValid_raw x w h.1
  rwa [h.2.1, h.2.2] at H
theorem keep77 {w w' : World} (k : Kp w w') {p0 p1 p2 p3 p4 p5 p6 q0 q1 q2 q3 q4 q5 q6 : Addr} {v0 v1 v2 v3 v4 v5 v6 u0 u1 u2 u3 u4 u5 u6 : Value}
    (h : (w.cell? p0 = some v0 ∧ w.cell? p1 = some v1 ∧ w.cell? p2 = some v2 ∧ w.cell? p3 = some v3 ∧ w.cell? p4 = some v4 ∧ w.cell? p5 = some v5 ∧ w.cell? p6 = some v6) ∧ w.cell? q0 = some u0 ∧ w.cell? q1 = some u1 ∧ w.cell? q2 = some u2 ∧ w.cell? q3 = some u3 ∧ w.cell? q4 = some u4 ∧ w.cell? q5 = some u5 ∧ w.cell? q6 = some u6) :
    (w'.cell? p0 = some v0 ∧ w'.cell? p1 = some v1 ∧ w'.cell? p2 = some v2 ∧ w'.cell? p3 = some v3 ∧ w'.cell? p4 = some v4 ∧ w'.cell? p5 = some v5 ∧ w'.cell? p6 = some v6) ∧ w'.cell? q0 = some u0 ∧ w'.cell? q1 = some u1 ∧ w'.cell? q2 = some u2 ∧ w'.cell? q3 = some u3 ∧ w'.cell? q4 = some u4 ∧ w'.cell? q5 = some u5 ∧ w'.cell? q6 = some u6 :=
  ⟨keep7 k h.1, keep7 k h.2⟩
theorem leZ (x y : Int) : decide (cmpZ x y ≤ 0) = decide (x ≤ y) := by
  have := @cmpZ_gt x y
  by_cases h : x ≤ y
  · rw [decide_eq_true h, decide_eq_true (by omega)]
  · rw [decide_eq_false h, decide_eq_false (by omega)]
/-- is d in x? -/
def hasI (x : RI) (d : RD) : Bool := decide (x.lo.iv ≤ d.iv) && decide (d.iv ≤ x.hi.iv)
theorem keep73 {w w' : World} (k : Kp w w') {p0 p1 p2 p3 p4 p5 p6 q0 q1 q2 : Addr} {v0 v1 v2 v3 v4 v5 v6 u0 u1 u2 : Value}
    (h : (w.cell? p0 = some v0 ∧ w.cell? p1 = some v1 ∧ w.cell? p2 = some v2 ∧ w.cell? p3 = some v3 ∧ w.cell? p4 = some v4 ∧ w.cell? p5 = some v5 ∧ w.cell? p6 = some v6) ∧ w.cell? q0 = some u0 ∧ w.cell? q1 = some u1 ∧ w.cell? q2 = some u2) :
    (w'.cell? p0 = some v0 ∧ w'.cell? p1 = some v1 ∧ w'.cell? p2 = some v2 ∧ w'.cell? p3 = some v3 ∧ w'.cell? p4 = some v4 ∧ w'.cell? p5 = some v5 ∧ w'.cell? p6 = some v6) ∧ w'.cell? q0 = some u0 ∧ w'.cell? q1 = some u1 ∧ w'.cell? q2 = some u2 :=
  ⟨keep7 k h.1, keep3 k h.2⟩
theorem Valid_rok (x : RD) (w : World) (h : x.ok w) :
    Calls Tryz.prog 24 #[.agg #[.bool x.neg, .slice x.a x.xs.length x.c, .int .i64 x.e]] w fun e w' => e = .returned (.bool true) ∧ Kp w w' := by
  have H := Valid_raw x w h.1
  rwa [h.2] at H
set_option maxHeartbeats 4000000 in
theorem Has_ok (x : RI) (d : RD) (w : World) (hx : x.ok w) (hd : d.ok w) :
    Calls Tryz.prog 13 #[.agg #[.bool x.lo.neg, .slice x.lo.a x.lo.xs.length x.lo.c, .int .i64 x.lo.e, .bool x.hi.neg, .slice x.hi.a x.hi.xs.length x.hi.c, .int .i64 x.hi.e, .bool false], .agg #[.bool d.neg, .slice d.a d.xs.length d.c, .int .i64 d.e]] w fun e w' => e = .returned (.bool (hasI x d)) ∧ Kp w w' := by
  have H := Lib.hid (show hasI x d = (decide (cmpZ x.lo.iv d.iv ≤ 0) && decide (cmpZ d.iv x.hi.iv ≤ 0)) by rw [leZ, leZ]; rfl)
  go_enter Tryz.func13, Tryz.ntmps13
  go_wp2_with fail
  generalize hW : ((w.alloc _).alloc _) = W at *
  have hk : Kp w W := hW ▸ ((Kp.refl w).alloc _).alloc _
  have hS : (W.cell? ⟨w.heap.size, 0, none⟩ = some (.bool x.lo.neg) ∧ W.cell? ⟨w.heap.size, 1, none⟩ = some (.slice x.lo.a x.lo.xs.length x.lo.c) ∧ W.cell? ⟨w.heap.size, 2, none⟩ = some (.int .i64 x.lo.e) ∧ W.cell? ⟨w.heap.size, 3, none⟩ = some (.bool x.hi.neg) ∧ W.cell? ⟨w.heap.size, 4, none⟩ = some (.slice x.hi.a x.hi.xs.length x.hi.c) ∧ W.cell? ⟨w.heap.size, 5, none⟩ = some (.int .i64 x.hi.e) ∧ W.cell? ⟨w.heap.size, 6, none⟩ = some (.bool false)) ∧ W.cell? ⟨w.heap.size + 1, 0, none⟩ = some (.bool d.neg) ∧ W.cell? ⟨w.heap.size + 1, 1, none⟩ = some (.slice d.a d.xs.length d.c) ∧ W.cell? ⟨w.heap.size + 1, 2, none⟩ = some (.int .i64 d.e) := by rw [← hW]; simp
  clear hW
  refine (IValid_ok x _ (hx.kp hk)).mono ?_
  rintro e w1 ⟨rfl, hk1⟩
  have hS1 := keep73 hk1 hS
  have hk2 := hk.trans hk1
  clear hS hk hk1
  go_wp2_with fail
  refine (Valid_rok d _ (hd.kp hk2)).mono ?_
  rintro e w3 ⟨rfl, hk3⟩
  have hS2 := keep73 hk3 hS1
  have hk4 := hk2.trans hk3
  clear hS1 hk2 hk3
  go_wp2_with fail
  refine (Cmp_rok x.lo d _ (hx.lo.kp hk4) (hd.kp hk4)).mono ?_
  rintro e w5 ⟨rfl, hk5⟩
  have hS3 := keep73 hk5 hS2
  have hk6 := hk4.trans hk5
  clear hS2 hk4 hk5
  by_cases hc : cmpZ x.lo.iv d.iv ≤ 0
  · have hd2 := decide_eq_true hc
    rw [hd2] at H
    clear hc
    go_wp2_with fail
    refine (Cmp_rok d x.hi _ (hd.kp hk6) (hx.hi.kp hk6)).mono ?_
    rintro e w7 ⟨rfl, hk7⟩
    go_wp2_with fail
    go_ret
    exact ⟨ret_bool (by rw [H.out]; simp), hk6.trans hk7⟩
  · have hd2 := decide_eq_false hc
    rw [hd2] at H
    clear hc
    go_wp2_with fail
    go_ret
    exact ⟨ret_bool (by rw [H.out]; simp), hk6⟩
end Go.Proofs.YtdlpiblgkpgplaaGreatDoor
end

section
namespace Go.Proofs.YtdlpiblgkpgplaaGreatDoor
open Go.RowKit
/-- the cells of numbers, one behind the other -/
def RowD (w : World) (a : Option Addr) (zs : List RD) : Prop :=
  ∀ i x, zs[i]? = some x → ∃ b o, a = some ⟨b, o, none⟩ ∧ x.rd w ∧ w.cell? ⟨b, o + i * 3, none⟩ = some (.bool x.neg) ∧ w.cell? ⟨b, o + i * 3 + 1, none⟩ = some (.slice x.a x.xs.length x.c) ∧ w.cell? ⟨b, o + i * 3 + 2, none⟩ = some (.int .i64 x.e)
theorem RowD.kp {w w' : World} {a : Option Addr} {zs : List RD} (h : RowD w a zs) (k : Kp w w') : RowD w' a zs := by
  intro i x hi
  obtain ⟨b, o, rfl, hr, h0, h1, h2⟩ := h i x hi
  exact ⟨b, o, rfl, hr.kp k, k.cell h0, k.cell h1, k.cell h2⟩

/-- the first index at which p answers true; -1 if there is none -/
def firstD (p : RD → Bool) (zs : List RD) : Int := match zs.findIdx? p with | some i => (i : Int) | none => -1
theorem firstD_some {p : RD → Bool} {zs : List RD} {k : Nat} {x : RD} (hk : zs[k]? = some x) (hp : p x = true) (h : ∀ i y, zs[i]? = some y → i < k → p y = false) : firstD p zs = k := by
  unfold firstD
  have : zs.findIdx? p = some k := by
    rw [List.findIdx?_eq_some_iff_getElem]
    obtain ⟨h1, h2⟩ := List.getElem?_eq_some_iff.1 hk
    refine ⟨h1, by rw [h2]; exact hp, fun j hj => ?_⟩
    rw [h j _ (List.getElem?_eq_getElem (by omega)) hj]; decide
  rw [this]
theorem firstD_none {p : RD → Bool} {zs : List RD} (h : ∀ (i : Nat) (y : RD), zs[i]? = some y → p y = false) : firstD p zs = -1 := by
  unfold firstD
  have : zs.findIdx? p = none := by
    rw [List.findIdx?_eq_none_iff]
    intro y hy
    obtain ⟨i, hi⟩ := List.getElem?_of_mem hy
    exact h i y hi
  rw [this]
theorem firstD_any (p : RD → Bool) (zs : List RD) : decide (0 ≤ firstD p zs) = zs.any p := by
  unfold firstD
  cases h : zs.findIdx? p with
  | some i =>
    have hm := List.findIdx?_eq_some_iff_getElem.1 h
    obtain ⟨h1, h2, _⟩ := hm
    have : zs.any p = true := List.any_eq_true.2 ⟨_, List.getElem_mem h1, h2⟩
    rw [this]; simp
  | none =>
    have hm := List.findIdx?_eq_none_iff.1 h
    have : zs.any p = false := by rw [List.any_eq_false]; intro y hy; rw [hm y hy]; decide
    rw [this]; decide
/-- the function g with the captured values cap answers p at each element, in whatever later world, and keeps all that was there -/
def AnsD (P : Program) (g : FuncId) (cap : Array Value) (w : World) (zs : List RD) (p : RD → Bool) : Prop :=
  Enters P g ∧ ∀ x, x ∈ zs → ∀ w1, Kp w w1 → Calls P g (#[.agg #[.bool x.neg, .slice x.a x.xs.length x.c, .int .i64 x.e]] ++ cap) w1 fun e w2 => e = .returned (.bool (p x)) ∧ Kp w1 w2

set_option maxHeartbeats 4000000 in
theorem idxD (a : Option Addr) (zs : List RD) (c : Nat) (g : FuncId) (cap : Array Value) (w : World) (p : RD → Bool) (hm : zs.length ≤ 1100000) (h : RowD w a zs) (hp : AnsD Tryz.prog g cap w zs p) :
    Calls Tryz.prog 65 #[.slice a zs.length c, .func (.func g) #[] cap] w fun e w' => e = .returned (.int .i64 (firstD p zs)) ∧ Kp w w' := by
  go_enter Tryz.func65, Tryz.ntmps65
  go_wp2
  go_loopw [8] (fun x wr => ∃ k : Nat, k ≤ zs.length ∧ x = .int .i64 k ∧ (∀ i y, zs[i]? = some y → i < k → p y = false) ∧ Kp w wr) (fun x _ => zs.length - (intOf x).toNat)
  case atStart => exact ⟨0, by omega, rfl, fun i y _ h1 => by omega, .refl _⟩
  case round =>
    obtain ⟨k, hk, rfl, hz, hkp⟩ := hrel
    have Hz := Lib.hid hz; clear hz
    by_cases hlt : k < zs.length
    · obtain ⟨b, o, rfl, hr, h0, h1, h2⟩ := (h.kp hkp) k (zs[k]) (List.getElem?_eq_getElem hlt)
      have Hg := Lib.hid (List.getElem?_eq_getElem hlt)
      have hgo : ∀ args w, (callFunc g args).run Tryz.prog w = .ok (.enter g args) w := hp.1
      have hcall := hp.2 _ (List.getElem_mem hlt) wr hkp
      clear hp h
      generalize zs[k] = x at *
      cases hq : p x with
      | true =>
        rw [hq] at hcall
        have Hc := Lib.hid hcall
        have Hq := Lib.hid (firstD_some Hg.out hq Hz.out)
        clear hcall hq
        go_wp2_with (refine Hc.out.mono ?_; rintro e w2 ⟨rfl, hk2⟩)
        go_ret
        exact ⟨ret_int Hq.out.symm, hkp.trans hk2⟩
      | false =>
        rw [hq] at hcall
        have Hc := Lib.hid hcall
        have Hq := Lib.hid hq
        clear hcall hq
        go_wp2_with (refine Hc.out.mono ?_; rintro e w2 ⟨rfl, hk2⟩)
        go_roundw
        case rel =>
          refine ⟨k + 1, by omega, by go_num, fun i y hy hi => ?_, hkp.trans hk2⟩
          by_cases h : i = k
          · subst h; rw [Hg.out] at hy; cases hy; exact Hq.out
          · exact Hz.out i y hy (by omega)
        case measure => simp [intOf]; omega
    · have Hthis := Lib.hid (firstD_none (p := p) (zs := zs) (fun i y hy => Hz.out i y hy (by have := (List.getElem?_eq_some_iff.1 hy).1; omega)))
      go_wp2
      go_ret
      exact ⟨ret_int Hthis.out.symm, hkp⟩

set_option maxHeartbeats 400000 in
theorem containsD (a : Option Addr) (zs : List RD) (c : Nat) (g : FuncId) (cap : Array Value) (w : World) (p : RD → Bool) (hm : zs.length ≤ 1100000) (h : RowD w a zs) (hp : AnsD Tryz.prog g cap w zs p) :
    Calls Tryz.prog 25 #[.slice a zs.length c, .func (.func g) #[] cap] w fun e w' => e = .returned (.bool (zs.any p)) ∧ Kp w w' := by
  have Hc := Lib.hid (idxD a zs c g cap w p hm h hp)
  have Ha := Lib.hid (firstD_any p zs)
  clear hp h
  go_enter Tryz.func25, Tryz.ntmps25
  go_wp2_with (refine Hc.out.mono ?_; rintro e w2 ⟨rfl, hk2⟩)
  go_ret
  exact ⟨by rw [← Ha.out]; rfl, hk2⟩
end Go.Proofs.YtdlpiblgkpgplaaGreatDoor
end

section
namespace Go.Proofs.YtdlpiblgkpgplaaGreatDoor
open Go.RowKit

/-- the cells of intervals, one behind the other -/
def RowI (w : World) (a : Option Addr) (zs : List RI) : Prop :=
  ∀ i x, zs[i]? = some x → ∃ b o, a = some ⟨b, o, none⟩ ∧ x.rd w ∧ w.cell? ⟨b, o + i * 7, none⟩ = some (.bool x.lo.neg) ∧ w.cell? ⟨b, o + i * 7 + 1, none⟩ = some (.slice x.lo.a x.lo.xs.length x.lo.c) ∧ w.cell? ⟨b, o + i * 7 + 2, none⟩ = some (.int .i64 x.lo.e) ∧
    w.cell? ⟨b, o + i * 7 + 3, none⟩ = some (.bool x.hi.neg) ∧ w.cell? ⟨b, o + i * 7 + 4, none⟩ = some (.slice x.hi.a x.hi.xs.length x.hi.c) ∧ w.cell? ⟨b, o + i * 7 + 5, none⟩ = some (.int .i64 x.hi.e) ∧ w.cell? ⟨b, o + i * 7 + 6, none⟩ = some (.bool x.all)
theorem RowI.kp {w w' : World} {a : Option Addr} {zs : List RI} (h : RowI w a zs) (k : Kp w w') : RowI w' a zs := by
  intro i x hi
  obtain ⟨b, o, rfl, hr, h0, h1, h2, h3, h4, h5, h6⟩ := h i x hi
  exact ⟨b, o, rfl, hr.kp k, k.cell h0, k.cell h1, k.cell h2, k.cell h3, k.cell h4, k.cell h5, k.cell h6⟩
/-- valid, and not All -/
def goodI (x : RI) : Bool := !x.all && x.vl
theorem goodI_ok {w : World} {x : RI} (h : x.rd w) : goodI x = true ↔ x.ok w := by
  unfold goodI RI.ok
  cases x.all <;> simp [h]

set_option maxHeartbeats 4000000 in
theorem known_any (a : Option Addr) (zs : List RI) (c : Nat) (w : World) (h : RowI w a zs) (hl : zs.length ≤ 1100000) :
    Calls Tryz.prog 93 #[.slice a zs.length c] w fun e w' => e = .returned (.bool (zs.all goodI)) ∧ Kp w w' := by
  go_enter Tryz.func93, Tryz.ntmps93
  go_wp2
  go_loopw [7] (fun x wr => ∃ k : Nat, k ≤ zs.length ∧ x = .int .i64 k ∧ (∀ i y, zs[i]? = some y → i < k → goodI y = true) ∧ Kp w wr) (fun x _ => zs.length - (intOf x).toNat)
  case atStart => exact ⟨0, by omega, rfl, fun i y _ h1 => by omega, .refl _⟩
  case round =>
    obtain ⟨k, hk, rfl, hz, hkp⟩ := hrel
    have Hz := Lib.hid hz; clear hz
    by_cases hlt : k < zs.length
    · obtain ⟨b, o, rfl, hr, h0, h1, h2, h3, h4, h5, h6⟩ := (h.kp hkp) k (zs[k]) (List.getElem?_eq_getElem hlt)
      have Hg := Lib.hid (List.getElem?_eq_getElem hlt)
      generalize zs[k] = x at *
      have H := Lib.hid (show goodI x = (!x.all && x.vl) from rfl)
      have step : goodI x = true → ∀ i y, zs[i]? = some y → i < k + 1 → goodI y = true := fun hq i y hy hi => by
        by_cases e : i = k
        · subst e; rw [Hg.out] at hy; cases hy; exact hq
        · exact Hz.out i y hy (by omega)
      have fall : goodI x = false → zs.all goodI = false := fun hq => by
        rw [List.all_eq_false]
        exact ⟨x, List.mem_of_getElem? Hg.out, by rw [hq]; decide⟩
      have Hs := Lib.hid step
      have Hf := Lib.hid fall
      clear step fall
      have hmv := IValid_raw x
      cases ha : x.all with
      | true =>
        rw [ha] at H h6
        clear ha hmv
        go_wp2_with fail
        go_ret
        exact ⟨ret_bool (Hf.out H.out).symm, by first | exact hkp.alloc _ | exact ((hkp.alloc _).alloc _)⟩
      | false =>
        rw [ha] at H h6
        have hm := hmv (wr.alloc (.cells #[.bool x.lo.neg, .slice x.lo.a x.lo.xs.length x.lo.c, .int .i64 x.lo.e, .bool x.hi.neg, .slice x.hi.a x.hi.xs.length x.hi.c, .int .i64 x.hi.e, .bool false] 35)) (hr.kp ((Kp.refl _).alloc _))
        rw [ha] at hm
        clear ha hmv
        go_wp2_with fail
        cases hv : x.vl with
        | true =>
          rw [hv] at H hm
          clear hv
          refine hm.mono ?_
          rintro e w2 ⟨rfl, hk2⟩
          go_wp2_with fail
          go_roundw
          case rel => exact ⟨k + 1, by omega, by go_num, Hs.out H.out, (hkp.alloc _).trans hk2⟩
          case measure => simp [intOf]; omega
        | false =>
          rw [hv] at H hm
          clear hv
          refine hm.mono ?_
          rintro e w2 ⟨rfl, hk2⟩
          go_wp2_with fail
          go_ret
          exact ⟨ret_bool (Hf.out H.out).symm, (hkp.alloc _).trans hk2⟩
    · have hall : zs.all goodI = true := by
        rw [List.all_eq_true]
        intro y hy
        obtain ⟨i, hi⟩ := List.getElem?_of_mem hy
        have : i < zs.length := (List.getElem?_eq_some_iff.1 hi).1
        exact Hz.out i y hi (by omega)
      have H := Lib.hid hall.symm
      clear hall
      go_wp2
      go_ret
      exact ⟨ret_bool H.out, hkp⟩
end Go.Proofs.YtdlpiblgkpgplaaGreatDoor
end

section
namespace Go.Proofs.YtdlpiblgkpgplaaGreatDoor
open Go.RowKit

theorem keep33 {w w' : World} (k : Kp w w') {p0 p1 p2 q0 q1 q2 : Addr} {v0 v1 v2 u0 u1 u2 : Value}
    (h : (w.cell? p0 = some v0 ∧ w.cell? p1 = some v1 ∧ w.cell? p2 = some v2) ∧ w.cell? q0 = some u0 ∧ w.cell? q1 = some u1 ∧ w.cell? q2 = some u2) :
    (w'.cell? p0 = some v0 ∧ w'.cell? p1 = some v1 ∧ w'.cell? p2 = some v2) ∧ w'.cell? q0 = some u0 ∧ w'.cell? q1 = some u1 ∧ w'.cell? q2 = some u2 :=
  ⟨keep3 k h.1, keep3 k h.2⟩
theorem Box3.new3 (w : World) (x0 x1 x2 : Value) (t : TypeId) (o1 o2 : Obj) : Box3 (((w.alloc o1).alloc o2).alloc (.cells #[x0, x1, x2] t)) (w.heap.size + 2) x0 x1 x2 := by
  have := Box3.new ((w.alloc o1).alloc o2) x0 x1 x2 t
  rwa [World.size_alloc, World.size_alloc] at this

end Go.Proofs.YtdlpiblgkpgplaaGreatDoor
end

section
namespace Go.Proofs.YtdlpiblgkpgplaaGreatDoor
open Go.RowKit

/-- W is w but for cells of the block g that are of the call's own -/
def Upd (g : Nat) (w W : World) : Prop :=
  (∀ p : Addr, W.frozen? p = w.frozen? p) ∧ (∀ a xs, Rd w a xs → Rd W a xs) ∧ (∀ a : World, Kp a w → a.heap.size ≤ g → Kp a W) ∧ (∀ p : Addr, p.block ≠ g → W.cell? p = w.cell? p) ∧ W.heap.size = w.heap.size
theorem Upd.refl (g : Nat) (w : World) : Upd g w w := ⟨fun _ => rfl, fun _ _ h => h, fun _ h _ => h, fun _ _ => rfl, rfl⟩
theorem Upd.step {g : Nat} {w W : World} (h : Upd g w W) {i : Nat} {y : Value} (hc : W.cell? ⟨g, i, none⟩ = some y) (hy : ∀ n : Int, y ≠ .int .u32 n) (v : Value) : Upd g w (W.setCell ⟨g, i, none⟩ v) := by
  obtain ⟨h1, h2, h3, h4, h5⟩ := h
  refine ⟨fun p => by rw [← h1 p]; simp, fun a xs hr => (h2 a xs hr).other hc hy, fun a hk hg => (h3 a hk hg).set hg _, fun p hp => ?_, by rw [← h5]; simp⟩
  rw [cell_set_ne, h4 p hp]
  intro e; exact hp (by rw [← e])
theorem set_at {w : World} {g i j : Nat} {v u : Value} (hij : i ≠ j) (h : w.cell? ⟨g, j, none⟩ = some u) : (w.setCell ⟨g, i, none⟩ v).cell? ⟨g, j, none⟩ = some u := by
  rw [cell_set_ne (fun e => hij (by injection e))]; exact h
/-- the cells of an interval -/
def Box7 (w : World) (g : Nat) (x0 x1 x2 x3 x4 x5 x6 : Value) : Prop :=
  w.cell? ⟨g, 0, none⟩ = some x0 ∧ w.cell? ⟨g, 1, none⟩ = some x1 ∧ w.cell? ⟨g, 2, none⟩ = some x2 ∧ w.cell? ⟨g, 3, none⟩ = some x3 ∧ w.cell? ⟨g, 4, none⟩ = some x4 ∧ w.cell? ⟨g, 5, none⟩ = some x5 ∧ w.cell? ⟨g, 6, none⟩ = some x6
theorem Box7.kp {w w' : World} {g : Nat} {x0 x1 x2 x3 x4 x5 x6 : Value} (h : Box7 w g x0 x1 x2 x3 x4 x5 x6) (k : Kp w w') : Box7 w' g x0 x1 x2 x3 x4 x5 x6 := keep7 k h
theorem Box7.new (w : World) (x0 x1 x2 x3 x4 x5 x6 : Value) (t : TypeId) : Box7 (w.alloc (.cells #[x0, x1, x2, x3, x4, x5, x6] t)) w.heap.size x0 x1 x2 x3 x4 x5 x6 := by
  refine ⟨?_, ?_, ?_, ?_, ?_, ?_, ?_⟩ <;> simp
theorem stored7 {w : World} {g : Nat} {y0 y1 y2 y3 y4 y5 y6 : Value} (h : Box7 w g y0 y1 y2 y3 y4 y5 y6)
    (n0 : ∀ n : Int, y0 ≠ .int .u32 n) (n1 : ∀ n : Int, y1 ≠ .int .u32 n) (n2 : ∀ n : Int, y2 ≠ .int .u32 n) (n3 : ∀ n : Int, y3 ≠ .int .u32 n) (n4 : ∀ n : Int, y4 ≠ .int .u32 n) (n5 : ∀ n : Int, y5 ≠ .int .u32 n) (n6 : ∀ n : Int, y6 ≠ .int .u32 n)
    (x0 x1 x2 x3 x4 x5 x6 : Value) {W : World}
    (hW : (((((((w.setCell ⟨g, 0, none⟩ x0).setCell ⟨g, 1, none⟩ x1).setCell ⟨g, 2, none⟩ x2).setCell ⟨g, 3, none⟩ x3).setCell ⟨g, 4, none⟩ x4).setCell ⟨g, 5, none⟩ x5).setCell ⟨g, 6, none⟩ x6) = W) :
    Box7 W g x0 x1 x2 x3 x4 x5 x6 ∧ Upd g w W := by
  subst hW
  obtain ⟨h0, h1, h2, h3, h4, h5, h6⟩ := h
  have d (i j : Nat) (h : i ≠ j) : i ≠ j := h
  have u0 := (Upd.refl g w).step h0 n0 x0
  have u1 := u0.step (set_at (by decide) h1) n1 x1
  have u2 := u1.step (set_at (by decide) (set_at (by decide) h2)) n2 x2
  have u3 := u2.step (set_at (by decide) (set_at (by decide) (set_at (by decide) h3))) n3 x3
  have u4 := u3.step (set_at (by decide) (set_at (by decide) (set_at (by decide) (set_at (by decide) h4)))) n4 x4
  have u5 := u4.step (set_at (by decide) (set_at (by decide) (set_at (by decide) (set_at (by decide) (set_at (by decide) h5))))) n5 x5
  have u6 := u5.step (set_at (by decide) (set_at (by decide) (set_at (by decide) (set_at (by decide) (set_at (by decide) (set_at (by decide) h6)))))) n6 x6
  refine ⟨⟨?_, ?_, ?_, ?_, ?_, ?_, ?_⟩, u6⟩
  · exact set_at (by decide) (set_at (by decide) (set_at (by decide) (set_at (by decide) (set_at (by decide) (set_at (by decide) (cell_set_eq h0))))))
  · exact set_at (by decide) (set_at (by decide) (set_at (by decide) (set_at (by decide) (set_at (by decide) (cell_set_eq (set_at (by decide) h1))))))
  · exact set_at (by decide) (set_at (by decide) (set_at (by decide) (set_at (by decide) (cell_set_eq (set_at (by decide) (set_at (by decide) h2))))))
  · exact set_at (by decide) (set_at (by decide) (set_at (by decide) (cell_set_eq (set_at (by decide) (set_at (by decide) (set_at (by decide) h3))))))
  · exact set_at (by decide) (set_at (by decide) (cell_set_eq (set_at (by decide) (set_at (by decide) (set_at (by decide) (set_at (by decide) h4))))))
  · exact set_at (by decide) (cell_set_eq (set_at (by decide) (set_at (by decide) (set_at (by decide) (set_at (by decide) (set_at (by decide) h5))))))
  · exact cell_set_eq (set_at (by decide) (set_at (by decide) (set_at (by decide) (set_at (by decide) (set_at (by decide) (set_at (by decide) h6))))))

/-- none of the seven cells is frozen -/
def Frz (w : World) (g : Nat) : Prop :=
  w.frozen? ⟨g, 0, none⟩ = false ∧ w.frozen? ⟨g, 1, none⟩ = false ∧ w.frozen? ⟨g, 2, none⟩ = false ∧ w.frozen? ⟨g, 3, none⟩ = false ∧ w.frozen? ⟨g, 4, none⟩ = false ∧ w.frozen? ⟨g, 5, none⟩ = false ∧ w.frozen? ⟨g, 6, none⟩ = false
theorem Frz.kp {w w' : World} {g : Nat} {x0 x1 x2 x3 x4 x5 x6 : Value} (h : Frz w g) (b : Box7 w g x0 x1 x2 x3 x4 x5 x6) (k : Kp w w') : Frz w' g :=
  ⟨k.frozen b.1 h.1, k.frozen b.2.1 h.2.1, k.frozen b.2.2.1 h.2.2.1, k.frozen b.2.2.2.1 h.2.2.2.1, k.frozen b.2.2.2.2.1 h.2.2.2.2.1, k.frozen b.2.2.2.2.2.1 h.2.2.2.2.2.1, k.frozen b.2.2.2.2.2.2 h.2.2.2.2.2.2⟩
theorem Frz.new (w : World) (x0 x1 x2 x3 x4 x5 x6 : Value) (t : TypeId) : Frz (w.alloc (.cells #[x0, x1, x2, x3, x4, x5, x6] t)) w.heap.size := by
  refine ⟨?_, ?_, ?_, ?_, ?_, ?_, ?_⟩ <;> simp
/-- a variable of the call's own, with room for an interval -/
def Var7 (w : World) (g : Nat) : Prop := Box7 w g (.bool false) (.slice none 0 0) (.int .i64 0) (.bool false) (.slice none 0 0) (.int .i64 0) (.bool false) ∧ Frz w g
theorem Var7.kp {w w' : World} {g : Nat} (h : Var7 w g) (k : Kp w w') : Var7 w' g := ⟨h.1.kp k, h.2.kp h.1 k⟩
theorem Var7.alloc {w : World} {g : Nat} (h : Var7 w g) (o : Obj) : Var7 (w.alloc o) g := h.kp ((Kp.refl w).alloc o)
theorem Var7.new (w : World) (t : TypeId) : Var7 (w.alloc (.cells #[.bool false, .slice none 0 0, .int .i64 0, .bool false, .slice none 0 0, .int .i64 0, .bool false] t)) w.heap.size := ⟨Box7.new _ _ _ _ _ _ _ _ _, Frz.new _ _ _ _ _ _ _ _ _⟩
theorem Var7.new2 (w : World) (t : TypeId) (o1 o2 : Obj) : Var7 (((w.alloc o1).alloc o2).alloc (.cells #[.bool false, .slice none 0 0, .int .i64 0, .bool false, .slice none 0 0, .int .i64 0, .bool false] t)) (w.heap.size + 1 + 1) := by
  have := Var7.new ((w.alloc o1).alloc o2) t
  rwa [World.size_alloc, World.size_alloc] at this
theorem RI.ok_mk {w : World} {x y : RD} (hx : x.ok w) (hy : y.ok w) (h : x.iv ≤ y.iv) : RI.ok w ⟨x, y, false⟩ := by
  refine ⟨⟨hx.1, hy.1⟩, rfl, ?_⟩
  show (if false = true then _ else _) = true
  have := @cmpZ_gt x.iv y.iv
  simp [hx.2, hy.2]; omega
end Go.Proofs.YtdlpiblgkpgplaaGreatDoor
end
