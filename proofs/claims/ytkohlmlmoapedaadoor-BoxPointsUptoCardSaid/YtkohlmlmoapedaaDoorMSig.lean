/-
  Plain rounding of signed numbers S 2^(-16384-K) to p bits, no program in sight.
  Walks: dyadic.Top, Bits, Sign, of valid numbers.
  Walks: dyadic.Bits, Sign, of valid numbers.
-/
import Derived.Test.YtkohlmlmoapedaaDoorMValid
import Derived.Deep.RegionHeld3
section
namespace Go.Proofs.YtkohlmlmoapedaaDoor

/-- the opposite -/
def Dy.opp (d : Dy) : Dy := if d.m = 0 then .zero else ⟨!d.neg, d.m, d.e⟩
theorem Dy.opp_iv (d : Dy) : d.opp.iv = -d.iv := by
  unfold Dy.opp
  split
  · next h => rw [Dy.iv_zero, Dy.iv_eq_zero.2 h]; rfl
  · unfold Dy.iv sg; cases d.neg <;> simp
theorem Dy.opp_ok {d : Dy} (h : d.ok) : d.opp.ok := by
  unfold Dy.opp
  split
  · exact Dy.ok_zero
  · next h0 =>
    rcases h with ⟨h1, _⟩ | h1
    · exact absurd h1 h0
    · exact .inr h1
theorem Dy.opp_m (d : Dy) : d.opp.m = d.m := by unfold Dy.opp; split <;> simp_all [Dy.zero]
theorem isP.opp {p : Nat} {d : Dy} (h : isP p d) : isP p d.opp := ⟨Dy.opp_ok h.1, by rw [Dy.opp_m]; exact h.2⟩
theorem isP.zero (p : Nat) : isP p .zero := ⟨Dy.ok_zero, Nat.zero_le _⟩
theorem Dy.opp_opp {d : Dy} (h : d.ok) : d.opp.opp = d := Dy.iv_inj (Dy.opp_ok (Dy.opp_ok h)) h (by rw [Dy.opp_iv, Dy.opp_iv]; omega)
theorem Dy.av_zero {d : Dy} : d.av = 0 ↔ d.m = 0 := by
  unfold Dy.av
  constructor
  · intro h
    rcases Nat.mul_eq_zero.1 h with h | h
    · exact h
    · exact absurd h (two_pow_ne _)
  · intro h; rw [h, Nat.zero_mul]
theorem Dy.iv_pos {d : Dy} (h : d.neg = false) : d.iv = d.av := by rw [Dy.iv_av, h]; rfl
theorem Dy.iv_neg {d : Dy} (h : d.neg = true) : d.iv = -(d.av : Int) := by rw [Dy.iv_av, h]; rfl

/-- S 2^(-16384-K), rounded to p bits -/
def rnd (K : Nat) (S : Int) (p : Nat) (up : Bool) : Option Dy :=
  if S = 0 then some .zero
  else if S < 0 then (rcut S.natAbs (-16384 - K) false p (!up)).map Dy.opp
  else rcut S.natAbs (-16384 - K) false p up

theorem rnd_zero (K p : Nat) (up : Bool) : rnd K 0 p up = some .zero := by unfold rnd; rw [if_pos rfl]
theorem rnd_isP {K p : Nat} {S : Int} {up : Bool} {d : Dy} (hp : 0 < p) (hp2 : p ≤ 4096) (h : rnd K S p up = some d) : isP p d := by
  unfold rnd at h
  split at h
  · cases h; exact .zero p
  · split at h
    · cases hc : rcut S.natAbs (-16384 - K) false p (!up) with
      | none => rw [hc] at h; cases h
      | some x => rw [hc] at h; cases h; exact (rcut_isP hp hp2 hc).1.opp
    · exact (rcut_isP hp hp2 h).1
theorem rnd_opp {K p : Nat} {S : Int} {up : Bool} (hp : 0 < p) (hp2 : p ≤ 4096) : rnd K (-S) p up = (rnd K S p (!up)).map Dy.opp := by
  unfold rnd
  by_cases h0 : S = 0
  · subst h0; simp [Dy.opp, Dy.zero]
  · rw [if_neg (by omega), if_neg h0, Int.natAbs_neg]
    by_cases h1 : S < 0
    · rw [if_neg (by omega), if_pos h1]
      simp only [Bool.not_not]
      cases hc : rcut S.natAbs (-16384 - K) false p up with
      | none => rfl
      | some x => simp only [Option.map_some]; rw [Dy.opp_opp (rcut_isP hp hp2 hc).1.1]
    · rw [if_pos (by omega), if_neg h1]

/-- rounding down: the greatest number of p bits that is at most it -/
theorem rnd_down {K p : Nat} {S : Int} (hp : 0 < p) (hp2 : p ≤ 4096) :
    (rnd K S p false = none ∧ ∀ d', isP p d' → ¬ d'.iv * 2 ^ K ≤ S) ∨
    ∃ d, rnd K S p false = some d ∧ isP p d ∧ d.iv * 2 ^ K ≤ S ∧ ∀ d', isP p d' → d'.iv * 2 ^ K ≤ S → d'.iv ≤ d.iv := by
  have hK : (0 : Int) < 2 ^ K := by exact_mod_cast two_pow_pos K
  have cast (x : Nat) : ((x * 2 ^ K : Nat) : Int) = (x : Int) * 2 ^ K := by push_cast; rfl
  by_cases h0 : S = 0
  · subst h0
    refine .inr ⟨.zero, rnd_zero _ _ _, .zero p, by rw [Dy.iv_zero]; simp, fun d' _ h => ?_⟩
    rw [Dy.iv_zero]
    exact Int.le_of_mul_le_mul_right (by simpa using h) hK
  by_cases h1 : S < 0
  · have e : rnd K S p false = (rcut S.natAbs (-16384 - K) false p true).map Dy.opp := by unfold rnd; rw [if_neg h0, if_pos h1]; rfl
    have conv (d' : Dy) (h : d'.iv * 2 ^ K ≤ S) : d'.neg = true ∧ S.natAbs ≤ d'.av * 2 ^ K := by
      cases hn : d'.neg with
      | false =>
        rw [Dy.iv_pos hn, ← cast] at h; omega
      | true =>
        rw [Dy.iv_neg hn, Int.neg_mul, ← cast] at h
        exact ⟨rfl, by omega⟩
    rcases rcut_up (n := S.natAbs) (K := K) (p := p) (by omega) hp with ⟨hc, hm⟩ | ⟨d, hc, h2, hm⟩
    · exact .inl ⟨by rw [e, hc]; rfl, fun d' hd' h => hm d' hd' (conv d' h).2⟩
    · have hp' := rcut_isP hp hp2 hc
      refine .inr ⟨d.opp, by rw [e, hc]; rfl, hp'.1.opp, ?_, fun d' hd' h => ?_⟩
      · rw [Dy.opp_iv, Dy.iv_pos hp'.2, Int.neg_mul, ← cast]; omega
      · have := hm d' hd' (conv d' h).2
        rw [Dy.opp_iv, Dy.iv_pos hp'.2, Dy.iv_neg (conv d' h).1]; omega
  · have e : rnd K S p false = rcut S.natAbs (-16384 - K) false p false := by unfold rnd; rw [if_neg h0, if_neg h1]
    obtain ⟨d, hc, h2, hm⟩ := rcut_down (n := S.natAbs) (K := K) (p := p) (by omega) hp hp2
    have hp' := rcut_isP hp hp2 hc
    refine .inr ⟨d, by rw [e, hc], hp'.1, ?_, fun d' hd' h => ?_⟩
    · rw [Dy.iv_pos hp'.2, ← cast]; omega
    · rw [Dy.iv_pos hp'.2]
      cases hn : d'.neg with
      | false =>
        rw [Dy.iv_pos hn, ← cast] at h
        have := hm d' hd' (by omega)
        rw [Dy.iv_pos hn]; omega
      | true => rw [Dy.iv_neg hn]; omega
/-- rounding up: the least number of p bits that is at least it -/
theorem rnd_up {K p : Nat} {S : Int} (hp : 0 < p) (hp2 : p ≤ 4096) :
    (rnd K S p true = none ∧ ∀ d', isP p d' → ¬ S ≤ d'.iv * 2 ^ K) ∨
    ∃ d, rnd K S p true = some d ∧ isP p d ∧ S ≤ d.iv * 2 ^ K ∧ ∀ d', isP p d' → S ≤ d'.iv * 2 ^ K → d.iv ≤ d'.iv := by
  have e : rnd K S p true = (rnd K (-S) p false).map Dy.opp := by
    have := rnd_opp (K := K) (S := -S) (up := true) hp hp2
    rwa [Int.neg_neg] at this
  rcases rnd_down (K := K) (S := -S) hp hp2 with ⟨h1, h2⟩ | ⟨d, h1, h2, h3, h4⟩
  · refine .inl ⟨by rw [e, h1]; rfl, fun d' hd' h => h2 d'.opp hd'.opp ?_⟩
    rw [Dy.opp_iv, Int.neg_mul]; omega
  · refine .inr ⟨d.opp, by rw [e, h1]; rfl, h2.opp, ?_, fun d' hd' h => ?_⟩
    · rw [Dy.opp_iv, Int.neg_mul]; omega
    · have := h4 d'.opp hd'.opp (by rw [Dy.opp_iv, Int.neg_mul]; omega)
      rw [Dy.opp_iv] at this ⊢; omega

/-- the form with any exponent -/
def rnde (S : Int) (e : Int) (p : Nat) (up : Bool) : Option Dy :=
  if S = 0 then some .zero
  else if S < 0 then (rcut S.natAbs e false p (!up)).map Dy.opp
  else rcut S.natAbs e false p up
theorem rnde_rnd (K : Nat) (S : Int) (p : Nat) (up : Bool) : rnde S (-16384 - K) p up = rnd K S p up := rfl
theorem rnde_shift (S : Int) (k : Nat) (e : Int) (p : Nat) (up : Bool) : rnde (S * 2 ^ k) (e - k) p up = rnde S e p up := by
  have hk : (0 : Int) < 2 ^ k := by exact_mod_cast two_pow_pos k
  have ha : (S * 2 ^ k).natAbs = S.natAbs * 2 ^ k := by
    rw [Int.natAbs_mul, Int.natAbs_pow]; rfl
  unfold rnde
  by_cases h0 : S = 0
  · subst h0; simp
  · have h0' : S * 2 ^ k ≠ 0 := Int.mul_ne_zero h0 (by omega)
    rw [if_neg h0, if_neg h0', ha, rcut_shift (by omega), rcut_shift (by omega)]
    by_cases h1 : S < 0
    · rw [if_pos h1, if_pos (Int.mul_neg_of_neg_of_pos h1 hk)]
    · rw [if_neg h1, if_neg (by have := Int.mul_pos (show 0 < S by omega) hk; omega)]
/-- any exponent, brought to a grid -/
theorem rnde_grid (S e : Int) (K k : Nat) (h : e = k - 16384 - K) (p : Nat) (up : Bool) : rnde S e p up = rnd K (S * 2 ^ k) p up := by
  rw [← rnde_rnd, show (-16384 - (K : Int)) = e - k from by omega, rnde_shift]

end Go.Proofs.YtkohlmlmoapedaaDoor
end

section
namespace Go.Proofs.YtkohlmlmoapedaaDoor
open Go.RowKit

/-- a valid dyadic number d, its limbs at a, of capacity c -/
def DyAt (w : World) (d : Dy) (a : Option Addr) (c : Nat) : Prop := d.ok ∧ Rd w a (limbs d.m) ∧ (limbs d.m).length ≤ c ∧ c ≤ maxLen
theorem DyAt.kp {w w' : World} {d : Dy} {a : Option Addr} {c : Nat} (h : DyAt w d a c) (k : Kp w w') : DyAt w' d a c := ⟨h.1, h.2.1.kp k, h.2.2⟩
theorem ok_e {d : Dy} (h : d.ok) : -16384 ≤ d.e ∧ d.e ≤ 16384 := by
  rcases h with ⟨_, _, h⟩ | ⟨_, _, h, h', _⟩ <;> omega
theorem ok_I64 {d : Dy} (h : d.ok) : I64 d.e := by have := ok_e h; exact ⟨by omega, by omega⟩

theorem Valid_ok (d : Dy) (a : Option Addr) (c : Nat) (w : World) (h : DyAt w d a c) :
    Calls Tryd.prog 47 #[.agg #[.bool d.neg, .slice a (limbs d.m).length c, .int .i64 d.e]] w fun e w' => e = .returned (.bool true) ∧ Kp w w' := by
  have := Valid_any d.neg a (limbs d.m) c d.e w h.2.1 h.2.2.1 h.2.2.2 (by have := ok_len h.1; omega) (ok_I64 h.1)
  rwa [ok_vld h.1] at this

theorem DyAt.drew {w : World} {d : Dy} {a : Option Addr} {c : Nat} (h : DyAt w d a c) : DyAt w.drew d a c := h.kp (Kp.refl w).drew
theorem size_ok (d : Dy) (a : Option Addr) (c : Nat) (w : World) (h : DyAt w d a c) :
    Calls Tryd.prog 67 #[.slice a (limbs d.m).length c] w fun e w' => e = .returned (.int .i64 (bits d.m)) ∧ w = w' := by
  have hs := size_any a (limbs d.m) c w h.2.1 h.2.2.1 h.2.2.2 (by have := ok_len h.1; omega)
  rwa [val_limbs] at hs

/-- the top -/
def topI (d : Dy) : Int := if d.m = 0 then 0 else (bits d.m : Int) + d.e
theorem len_ne {n : Nat} (h : n ≠ 0) : (((limbs n).length : Int) == 0) = false :=
  beq_eq_false_iff_ne.2 (by
    have : limbs n ≠ [] := by rw [Ne, limbs_eq_nil]; exact h
    have := List.length_pos_iff.2 this
    omega)

set_option maxHeartbeats 2000000 in
theorem Top_ok (d : Dy) (a : Option Addr) (c : Nat) (w : World) (h : DyAt w d a c) :
    Calls Tryd.prog 68 #[.agg #[.bool d.neg, .slice a (limbs d.m).length c, .int .i64 d.e]] w fun e w' => e = .returned (.int .i64 (topI d)) ∧ Kp w w' := by
  have hb := bits_val_le (limbs_lt32 d.m)
  rw [val_limbs] at hb
  have hl := ok_len h.1
  have he := ok_e h.1
  by_cases h0 : d.m = 0
  · have H := Lib.hid (show topI d = 0 by unfold topI; rw [if_pos h0])
    have H2 := Lib.hid (Valid_ok d a c _ (h.kp ((Kp.refl w).alloc (.cells #[.bool d.neg, .slice a (limbs d.m).length c, .int .i64 d.e] 36))))
    have hz : (limbs d.m).length = 0 := by rw [h0, limbs_zero]; rfl
    clear h0
    rw [hz] at H2 ⊢
    clear hz hl hb
    go_enter Tryd.func68, Tryd.ntmps68
    go_wp2_with fail
    refine H2.out.mono ?_
    rintro e w1 ⟨rfl, hk⟩
    obtain ⟨c0, c1, c2, _⟩ := (Box3.new w (.bool d.neg) (.slice a 0 c) (.int .i64 d.e) 36).kp hk
    go_wp2_with fail
    go_ret
    exact ⟨ret_int H.out.symm, ((Kp.refl w).alloc _).trans hk⟩
  · have H := Lib.hid (show topI d = (bits d.m : Int) + d.e by unfold topI; rw [if_neg h0])
    have hz := len_ne h0
    clear h0
    go_enter Tryd.func68, Tryd.ntmps68
    go_wp2_with fail
    refine (Valid_ok d a c _ (h.kp ((Kp.refl w).alloc _))).mono ?_
    rintro e w1 ⟨rfl, hk⟩
    obtain ⟨c0, c1, c2, _⟩ := (Box3.new w (.bool d.neg) (.slice a (limbs d.m).length c) (.int .i64 d.e) 36).kp hk
    have hk2 := ((Kp.refl w).alloc _).trans hk
    have hd := (h.kp hk2).drew
    go_wp2_with fail
    go_region_held3 (fun w' => w'.cell? ⟨w.heap.size, 1, none⟩ = some (.slice a (limbs d.m).length c) ∧ w'.cell? ⟨w.heap.size, 2, none⟩ = some (.int .i64 d.e)) (go_keep)
      (first | (go_at_call 67; refine (size_ok d a c _ hd).mono ?_; rintro e w2 ⟨rfl, rfl⟩))
    go_wp2_with fail
    go_ret
    exact ⟨ret_int ((IntWalk.i64_in _ (by omega)).trans H.out.symm), hk2.drew⟩
end Go.Proofs.YtkohlmlmoapedaaDoor
end

section
namespace Go.Proofs.YtkohlmlmoapedaaDoor
open Go.RowKit

/-- the sign -/
def sgn (d : Dy) : Int := if d.m = 0 then 0 else if d.neg then -1 else 1
theorem sgn_iv (d : Dy) : (sgn d = 0 ↔ d.iv = 0) ∧ (sgn d = -1 ↔ d.iv < 0) ∧ (sgn d = 1 ↔ 0 < d.iv) := by
  have hav : d.m ≠ 0 → 0 < (d.av : Int) := fun h => by
    have : d.av ≠ 0 := fun h2 => h (Dy.av_zero.1 h2)
    omega
  unfold sgn
  by_cases h0 : d.m = 0
  · have := Dy.iv_eq_zero.2 h0
    rw [if_pos h0, this]; simp
  · rw [if_neg h0]
    have h1 := hav h0
    cases hn : d.neg with
    | false => rw [Dy.iv_pos hn]; simp; omega
    | true => rw [Dy.iv_neg hn]; simp; omega

set_option maxHeartbeats 2000000 in
theorem Sign_ok (d : Dy) (a : Option Addr) (c : Nat) (w : World) (h : DyAt w d a c) :
    Calls Tryd.prog 61 #[.agg #[.bool d.neg, .slice a (limbs d.m).length c, .int .i64 d.e]] w fun e w' => e = .returned (.int .i64 (sgn d)) ∧ Kp w w' := by
  by_cases h0 : d.m = 0
  · have H := Lib.hid (show sgn d = 0 by unfold sgn; rw [if_pos h0])
    have H2 := Lib.hid (Valid_ok d a c _ (h.kp ((Kp.refl w).alloc (.cells #[.bool d.neg, .slice a (limbs d.m).length c, .int .i64 d.e] 36))))
    have hz : (limbs d.m).length = 0 := by rw [h0, limbs_zero]; rfl
    clear h0
    rw [hz] at H2 ⊢
    clear hz
    go_enter Tryd.func61, Tryd.ntmps61
    go_wp2_with fail
    refine H2.out.mono ?_
    rintro e w1 ⟨rfl, hk⟩
    obtain ⟨c0, c1, c2, _⟩ := (Box3.new w (.bool d.neg) (.slice a 0 c) (.int .i64 d.e) 36).kp hk
    go_wp2_with fail
    go_ret
    exact ⟨ret_int H.out.symm, ((Kp.refl w).alloc _).trans hk⟩
  · have H := Lib.hid (show sgn d = if d.neg then -1 else 1 by unfold sgn; rw [if_neg h0])
    have hz := len_ne h0
    clear h0
    have H2 := Lib.hid (Valid_ok d a c _ (h.kp ((Kp.refl w).alloc (.cells #[.bool d.neg, .slice a (limbs d.m).length c, .int .i64 d.e] 36))))
    cases hn : d.neg with
    | false =>
      rw [hn] at H2 H
      clear hn
      go_enter Tryd.func61, Tryd.ntmps61
      go_wp2_with fail
      refine H2.out.mono ?_
      rintro e w1 ⟨rfl, hk⟩
      obtain ⟨c0, c1, c2, _⟩ := (Box3.new w (.bool false) (.slice a (limbs d.m).length c) (.int .i64 d.e) 36).kp hk
      go_wp2_with fail
      go_ret
      exact ⟨ret_int H.out.symm, ((Kp.refl w).alloc _).trans hk⟩
    | true =>
      rw [hn] at H2 H
      clear hn
      go_enter Tryd.func61, Tryd.ntmps61
      go_wp2_with fail
      refine H2.out.mono ?_
      rintro e w1 ⟨rfl, hk⟩
      obtain ⟨c0, c1, c2, _⟩ := (Box3.new w (.bool true) (.slice a (limbs d.m).length c) (.int .i64 d.e) 36).kp hk
      go_wp2_with fail
      go_ret
      exact ⟨ret_int H.out.symm, ((Kp.refl w).alloc _).trans hk⟩
end Go.Proofs.YtkohlmlmoapedaaDoor
end
