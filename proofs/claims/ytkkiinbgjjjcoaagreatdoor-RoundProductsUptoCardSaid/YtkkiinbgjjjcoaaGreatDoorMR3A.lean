/-
  Walks: the third reference's Prec, fault, greatest; plain: what Cut computes.
  Walks: the third reference's Cut.
  Walks: the third reference's exact, Add.
  Walks: the law's own is; the law RoundSums.
-/
import Derived.Test.YtkkiinbgjjjcoaaGreatDoorMProdP
import Derived.Test.YtkkiinbgjjjcoaaGreatDoorMR2L
import Derived.Test.YtkkiinbgjjjcoaaGreatDoorMR1D
import Derived.Test.YtkkiinbgjjjcoaaGreatDoorMR2H
section
namespace Go.Proofs.YtkkiinbgjjjcoaaGreatDoor
open Go.RowKit

theorem r3prec_any (p : Int) (w : World) :
    Calls Tryz.prog 40 #[.int .i64 p] w fun e w' => e = .returned (.bool (preB p)) ∧ w = w' := by
  by_cases h1 : 8 ≤ p
  · by_cases h2 : p ≤ 512
    · have H := Lib.hid (show preB p = true from decide_eq_true ⟨h1, h2⟩)
      go_enter Tryz.func40, Tryz.ntmps40
      go_wp2_with fail
      go_ret
      exact ⟨ret_bool H.out.symm, rfl⟩
    · have H := Lib.hid (show preB p = false from decide_eq_false (fun h => h2 h.2))
      go_enter Tryz.func40, Tryz.ntmps40
      go_wp2_with fail
      go_ret
      exact ⟨ret_bool H.out.symm, rfl⟩
  · have H := Lib.hid (show preB p = false from decide_eq_false (fun h => h1 h.1))
    go_enter Tryz.func40, Tryz.ntmps40
    go_wp2_with fail
    go_ret
    exact ⟨ret_bool H.out.symm, rfl⟩
theorem r2Valid_rd (x : RD) (w : World) (h : x.rd w) :
    Calls Tryz.prog 39 #[.agg #[.bool x.neg, .slice x.a x.xs.length x.c, .int .i64 x.e]] w fun e w' => e = .returned (.bool x.vl) ∧ Kp w w' := r2Valid_any x.neg x.a x.xs x.c x.e w h.1 h.2.2.2.1 h.2.2.2.2
set_option maxHeartbeats 2000000 in
theorem r3fault_any (x y : RD) (p : Int) (w : World) (hx : x.rd w) (hy : y.rd w) :
    Calls Tryz.prog 23 #[.agg #[.bool x.neg, .slice x.a x.xs.length x.c, .int .i64 x.e], .agg #[.bool y.neg, .slice y.a y.xs.length y.c, .int .i64 y.e], .int .i64 p] w fun e w' => e = .returned (.int .i64 (fltB p [x, y])) ∧ Kp w w' := by
  have H := Lib.hid (show fltB p [x, y] = if ([x, y] : List RD).all RD.vl then (if preB p then 0 else 2) else 1 from rfl)
  go_enter Tryz.func23, Tryz.ntmps23
  go_wp2_with fail
  generalize hW : ((w.alloc _).alloc _) = W at *
  have hk : Kp w W := hW ▸ ((Kp.refl w).alloc _).alloc _
  have hS : W.cell? ⟨w.heap.size, 0, none⟩ = some (.bool x.neg) ∧ W.cell? ⟨w.heap.size, 1, none⟩ = some (.slice x.a x.xs.length x.c) ∧ W.cell? ⟨w.heap.size, 2, none⟩ = some (.int .i64 x.e) ∧ W.cell? ⟨w.heap.size + 1, 0, none⟩ = some (.bool y.neg) ∧ W.cell? ⟨w.heap.size + 1, 1, none⟩ = some (.slice y.a y.xs.length y.c) ∧ W.cell? ⟨w.heap.size + 1, 2, none⟩ = some (.int .i64 y.e) := by rw [← hW]; simp
  clear hW
  refine (r2Valid_rd x _ (hx.kp hk)).mono ?_
  rintro e w1 ⟨rfl, k1⟩
  have h1 := hk.trans k1
  obtain ⟨s0, s1, s2, t0, t1, t2⟩ := keepRR k1 hS
  clear hS hk k1
  cases hvx : x.vl with
  | false =>
    have HH := Lib.hid (show fltB p [x, y] = 1 by rw [H.out]; simp [hvx])
    clear H hvx
    go_wp2_with fail
    go_ret
    exact ⟨ret_int HH.out.symm, h1⟩
  | true =>
    go_wp2_with fail
    refine (r2Valid_rd y _ (hy.kp h1)).mono ?_
    rintro e w2 ⟨rfl, k2⟩
    have h2 := h1.trans k2
    clear s0 s1 s2 t0 t1 t2 h1 k2
    cases hvy : y.vl with
    | false =>
      have HH := Lib.hid (show fltB p [x, y] = 1 by rw [H.out]; simp [hvy])
      clear H hvx hvy
      go_wp2_with fail
      go_ret
      exact ⟨ret_int HH.out.symm, h2⟩
    | true =>
      have H2 := Lib.hid (show fltB p [x, y] = if preB p then 0 else 2 by rw [H.out]; simp [hvx, hvy])
      clear H hvx hvy
      go_wp2_with fail
      refine (r3prec_any p _).mono ?_
      rintro e w3 ⟨rfl, rfl⟩
      cases hp : preB p with
      | true =>
        rw [hp] at H2
        clear hp
        go_wp2_with fail
        go_ret
        exact ⟨ret_int H2.out.symm, h2⟩
      | false =>
        rw [hp] at H2
        clear hp
        go_wp2_with fail
        go_ret
        exact ⟨ret_int H2.out.symm, h2⟩
theorem r1shl_int (a : Option Addr) (xs : List Nat) (c : Nat) (j : Int) (n : Nat) (w : World) (h1 : Rd w a xs) (hxc : xs.length ≤ c) (hc : c ≤ maxLen) (hxl : xs.length ≤ 100000) (hn : n ≤ 20000000) (hj : j = n) :
    Calls Tryz.prog 73 #[.slice a xs.length c, .int .i64 j] w (NatOut w (val xs * 2 ^ n)) := by subst hj; exact r1shl_any a xs c n w h1 hxc hc hxl hn
theorem r1shr_int (a : Option Addr) (xs : List Nat) (c : Nat) (j : Int) (n : Nat) (w : World) (h1 : Rd w a xs) (hxl : xs.length ≤ 1000000) (hn : n ≤ 40000000) (hj : j = n) :
    Calls Tryz.prog 71 #[.slice a xs.length c, .int .i64 j] w (NatOut w (val xs / 2 ^ n)) := by subst hj; exact r1shr_any a xs c n w h1 hxl hn
theorem rd_new1 (w : World) (x : Nat) (hx : x < 4294967296) (t : TypeId) : Rd (w.alloc (.cells #[.int .u32 (x : Int)] t)) (some ⟨w.heap.size, 0, none⟩) [x] :=
  ⟨.cons hx .nil, .inr ⟨_, 0, rfl, fun i hi => by
    have : i = 0 := by simpa using hi
    subst this
    simp [nth_cons_zero]⟩⟩
set_option maxRecDepth 100000 in
set_option maxHeartbeats 2000000 in
theorem r3greatest_any (s : Bool) (p : Nat) (w : World) (h0 : 8 ≤ p) (h1 : p ≤ 512) :
    Calls Tryz.prog 75 #[.bool s, .int .i64 (p : Nat)] w (DyOut w (canon s (2 ^ p - 1) (16384 - p))) := by
  have hlen : (limbs (2 ^ p)).length ≤ 17 := limbs_of_bits (by rw [bits_two_pow]; omega)
  have hlen2 : (limbs (2 ^ p - 1)).length ≤ 17 := Nat.le_trans (limbs_length_mono (Nat.sub_le _ _)) hlen
  have hpos : 1 ≤ 2 ^ p := two_pow_pos p
  have hl1 : 1 ≤ (limbs (2 ^ p)).length := by
    have := limbs_length_mono hpos
    rwa [limbs_single (by decide) (by decide)] at this
  have hv1 : val [1] = 1 := by simp [val]
  have HS := Lib.hid (fun (W : World) => show Calls Tryz.prog 73 #[.slice (some ⟨W.heap.size, 0, none⟩) 1 1, .int .i64 (p : Nat)] (W.alloc (.cells #[.int .u32 1] 35)) (NatOut (W.alloc (.cells #[.int .u32 1] 35)) (2 ^ p)) by
    have := r1shl_any (some ⟨W.heap.size, 0, none⟩) [1] 1 p _ (rd_new1 W 1 (by decide) 35) (by simp) (by unfold maxLen; omega) (by simp) (by omega)
    rw [hv1, Nat.one_mul] at this
    exact this)
  have HU := Lib.hid (fun (W : World) (a : Option Addr) (c : Nat) (hr : Rd W a (limbs (2 ^ p))) => show Calls Tryz.prog 100 #[.slice a (limbs (2 ^ p)).length c, .slice (some ⟨W.heap.size, 0, none⟩) 1 1] (W.alloc (.cells #[.int .u32 1] 35)) (NatOut (W.alloc (.cells #[.int .u32 1] 35)) (2 ^ p - 1)) by
    have := r1sub_any a (some ⟨W.heap.size, 0, none⟩) (limbs (2 ^ p)) [1] c 1 _ (hr.kp ((Kp.refl W).alloc _)) (rd_new1 W 1 (by decide) 35) (by omega) (by simpa using hl1) (by rw [val_limbs, hv1]; exact hpos)
    rw [hv1, val_limbs] at this
    exact this)
  have Hlen := Lib.hid hlen2
  clear hlen hlen2 hl1 hpos hv1
  have hB := Box3.new w (.bool false) (.slice none 0 0) (.int .i64 0) 24
  have HB := Lib.hid hB
  clear hB
  generalize 2 ^ p = T at *
  have HS1 := HS.out (w.alloc (.cells #[.bool false, .slice none 0 0, .int .i64 0] 24))
  rw [World.size_alloc] at HS1
  have HS2 := Lib.hid HS1
  clear HS HS1
  go_enter Tryz.func75, Tryz.ntmps75
  go_wp2_with fail
  with_reducible refine HS2.out.mono ?_
  rintro e w2 ⟨a2, c2, rfl, l2, m2, r2, k2⟩
  go_wp2_with fail
  with_reducible refine (HU.out _ _ _ r2).mono ?_
  rintro e w3 ⟨a3, c3, rfl, l3, m3, r3, k3⟩
  go_wp2_with fail
  refine (r2Of_lim s a3 (T - 1) c3 _ _ r3 l3 m3 (by have := Hlen.out; omega) (by omega) (by omega)).mono ?_
  rintro e w4 ⟨a4, c4, rfl, r4, l4, m4, k4⟩
  have hk2 := ((((Kp.refl (w.alloc (.cells #[.bool false, .slice none 0 0, .int .i64 0] 24))).alloc _).trans k2).alloc _).trans (k3.trans k4)
  obtain ⟨q0, q1, q2, f0, f1, f2⟩ := HB.out.kp hk2
  have hk := ((Kp.refl w).alloc _).trans hk2
  generalize canon s (T - 1) (16384 - (p : Int)) = D at *
  have hst := stored q0 q1 q2 (fun _ h => by cases h) (fun _ h => by cases h) (fun _ h => by cases h) (.bool D.neg) (.slice a4 (limbs D.m).length c4) (.int .i64 D.e)
  go_wp2_with fail
  generalize (((w4.setCell _ _).setCell _ _).setCell _ _) = W at hst ⊢
  obtain ⟨s0, s1, s2, _, s4, s5, _, _⟩ := hst
  refine bodyPost_ret (v := .agg #[.bool D.neg, .slice a4 (limbs D.m).length c4, .int .i64 D.e]) (by simp [results, Tryz.results75, go_sem, s0, s1, s2]) rfl ?_
  exact ⟨a4, c4, rfl, s4 _ _ r4, l4, m4, s5 _ hk (by omega)⟩
/-- what Cut computes: the unit, the mantissa -/
def cutQ (m K : Nat) (more out : Bool) : Nat := if (more || (decide (0 < K) && !decide (m / 2 ^ K * 2 ^ K = m))) && out then m / 2 ^ K + 1 else m / 2 ^ K
def cutX (neg : Bool) (m : Nat) (e : Int) (more : Bool) (p : Nat) (up : Bool) (K : Nat) : Dy × Int :=
  if 0 < bits (cutQ m K more (neg != up)) ∧ 16384 < (bits (cutQ m K more (neg != up)) : Int) + e + K then
    (if (neg != up) = true then (.zero, 9) else (canon neg (2 ^ p - 1) (16384 - p), 0))
  else (canon neg (cutQ m K more (neg != up)) (e + K), 0)
theorem canon_opp (q : Nat) (u : Int) : (canon false q u).opp = canon true q u := by
  unfold canon
  split
  · exact zero_opp
  · next h =>
    have := (oddp_spec h).1
    unfold Dy.opp
    rw [if_neg (show oddp q ≠ 0 by intro k; rw [k] at this; exact absurd this (by decide))]
    rfl
/-- Cut is the rounding -/
theorem cutX_rnd {neg more : Bool} {m p K : Nat} {e : Int} {up : Bool} (hp : 8 ≤ p) (hp2 : p ≤ 512) (hK : (K : Int) = max (max ((bits m : Int) - p) (-16384 - e)) 0) (hm : more = true → p < bits m) (h0 : m = 0 → e ≤ 16384) (he : e ≤ 100000) :
    cutX neg m e more p up K = rndE (rndS neg m e more p up) := by
  have hb1 : (neg != up) = (up != neg) := by cases neg <;> cases up <;> rfl
  have key : ∀ u : Bool, (if 0 < bits (cutQ m K more u) ∧ 16384 < (bits (cutQ m K more u) : Int) + e + K then (if u = true then none else some (canon false (2 ^ p - 1) (16384 - p))) else some (canon false (cutQ m K more u) (e + K))) = rcut m e more p u := by
    intro u
    have hu : runit m e p = max (e + bits m - p) (-16384) := rfl
    rcases Nat.eq_zero_or_pos K with hK0 | hK0
    · subst hK0
      have hle : runit m e p ≤ e := by rw [hu]; omega
      have hmf : more = false := by
        cases hmm : more with
        | false => rfl
        | true => have := hm hmm; omega
      have hQ : cutQ m 0 more u = m := by unfold cutQ; rw [hmf]; simp
      have hlost : rlost m e (runit m e p) = false := by unfold rlost; rw [decide_eq_true hle]; rfl
      have hrl : rlow m e (runit m e p) = m * 2 ^ (e - runit m e p).toNat := by unfold rlow; rw [if_pos hle]
      have hrq : rq m e more p u = m * 2 ^ (e - runit m e p).toNat := by unfold rq; rw [hlost, hmf, hrl]; simp
      unfold rcut
      rw [hrq, hQ]
      have hcan : canon false (m * 2 ^ (e - runit m e p).toNat) (runit m e p) = canon false m (e + (0 : Nat)) := by
        rw [canon_shift]; congr 1; omega
      rw [hcan]
      by_cases hm0 : m = 0
      · subst hm0
        rw [Nat.zero_mul, bits_zero, if_neg (by omega), if_neg (by have := h0 rfl; rw [hu, bits_zero]; omega)]
      · have hbp := bits_pos hm0
        rw [bits_mul_pow hm0]
        by_cases hov : 16384 < (bits m : Int) + e
        · rw [if_pos (show 0 < bits m ∧ 16384 < (bits m : Int) + e + (0 : Nat) from ⟨hbp, by omega⟩), if_pos (show ((bits m + (e - runit m e p).toNat : Nat) : Int) + runit m e p > 16384 by omega)]
        · rw [if_neg (show ¬ (0 < bits m ∧ 16384 < (bits m : Int) + e + (0 : Nat)) from fun h => hov (by have := h.2; omega)), if_neg (show ¬ ((bits m + (e - runit m e p).toNat : Nat) : Int) + runit m e p > 16384 by omega)]
    · have hKu : runit m e p = e + K := by rw [hu]; omega
      have hnle : ¬ runit m e p ≤ e := by omega
      have hKn : (runit m e p - e).toNat = K := by omega
      have hrl : rlow m e (runit m e p) = m / 2 ^ K := by unfold rlow; rw [if_neg hnle, hKn]
      have hdm := Nat.div_add_mod m (2 ^ K)
      have hlost : rlost m e (runit m e p) = !decide (m / 2 ^ K * 2 ^ K = m) := by
        unfold rlost
        rw [decide_eq_false hnle, hKn]
        have : (m % 2 ^ K = 0) ↔ (m / 2 ^ K * 2 ^ K = m) := by rw [Nat.mul_comm]; omega
        simp [this]
      have hrq : rq m e more p u = cutQ m K more u := by
        unfold rq cutQ
        rw [hlost, hrl, decide_eq_true hK0, Bool.true_and, Bool.and_comm]
      unfold rcut
      rw [hrq, hKu]
      by_cases hq0 : bits (cutQ m K more u) = 0
      · have hsmall : ¬ (bits (cutQ m K more u) : Int) + (e + K) > 16384 := by
          rw [hq0]
          have hq1 : cutQ m K more u = 0 := by
            rcases Nat.eq_zero_or_pos (cutQ m K more u) with h | h
            · exact h
            · have := bits_pos (Nat.ne_of_gt h); omega
          have hq2 : m / 2 ^ K = 0 := by
            unfold cutQ at hq1; split at hq1 <;> omega
          have hlt : m < 2 ^ K := by
            rcases Nat.lt_or_ge m (2 ^ K) with h | h
            · exact h
            · have := Nat.div_pos h (two_pow_pos K); omega
          have hbK := bits_le.2 hlt
          omega
        rw [if_neg (fun h => by have := h.1; omega), if_neg hsmall]
      · by_cases hov : 16384 < (bits (cutQ m K more u) : Int) + e + K
        · rw [if_pos ⟨by omega, hov⟩, if_pos (show (bits (cutQ m K more u) : Int) + (e + K) > 16384 by omega)]
        · rw [if_neg (fun h => hov h.2), if_neg (show ¬ (bits (cutQ m K more u) : Int) + (e + K) > 16384 by omega)]
  have e0 : ∀ R, sgnR false R = R := fun _ => rfl
  have e1 : ∀ R, sgnR true R = R.map Dy.opp := fun _ => rfl
  unfold rndS
  rw [← hb1, ← key (neg != up)]
  unfold cutX
  generalize cutQ m K more (neg != up) = Q
  by_cases hc : 0 < bits Q ∧ 16384 < (bits Q : Int) + e + K
  · rw [if_pos hc, if_pos hc]
    by_cases ho : (neg != up) = true
    · rw [if_pos ho, if_pos ho]
      cases neg with
      | false => rw [e0]; rfl
      | true => rw [e1]; rfl
    · rw [if_neg ho, if_neg ho]
      cases neg with
      | false => rw [e0]; rfl
      | true => rw [e1, Option.map_some, canon_opp]; rfl
  · rw [if_neg hc, if_neg hc]
    cases neg with
    | false => rw [e0]; rfl
    | true => rw [e1, Option.map_some, canon_opp]; rfl
end Go.Proofs.YtkkiinbgjjjcoaaGreatDoor
end

section
namespace Go.Proofs.YtkkiinbgjjjcoaaGreatDoor
open Go.RowKit

theorem r1bits_lim (a : Option Addr) (n : Nat) (c : Nat) (w : World) (h : Rd w a (limbs n)) (hl : (limbs n).length ≤ 1100000) :
    Calls Tryz.prog 70 #[.slice a (limbs n).length c] w fun e w' => e = .returned (.int .i64 (bits n)) ∧ w = w' := by
  have := r1bits_any a (limbs n) c w h hl
  rwa [val_limbs] at this
theorem r1shr_lim (a : Option Addr) (m : Nat) (c : Nat) (j : Int) (n : Nat) (w : World) (h1 : Rd w a (limbs m)) (hxl : (limbs m).length ≤ 1000000) (hn : n ≤ 40000000) (hj : j = n) :
    Calls Tryz.prog 71 #[.slice a (limbs m).length c, .int .i64 j] w (NatOut w (m / 2 ^ n)) := by
  have := r1shr_int a (limbs m) c j n w h1 hxl hn hj
  rwa [val_limbs] at this
theorem r1shl_lim (a : Option Addr) (m : Nat) (c : Nat) (j : Int) (n : Nat) (w : World) (h1 : Rd w a (limbs m)) (hxc : (limbs m).length ≤ c) (hc : c ≤ maxLen) (hxl : (limbs m).length ≤ 100000) (hn : n ≤ 20000000) (hj : j = n) :
    Calls Tryz.prog 73 #[.slice a (limbs m).length c, .int .i64 j] w (NatOut w (m * 2 ^ n)) := by
  have := r1shl_int a (limbs m) c j n w h1 hxc hc hxl hn hj
  rwa [val_limbs] at this
theorem r1cmp_lim (a b : Option Addr) (m n : Nat) (c d : Nat) (w : World) (h1 : Rd w a (limbs m)) (h2 : Rd w b (limbs n)) (hxl : (limbs m).length ≤ 1100000) (hyl : (limbs n).length ≤ 1100000) :
    Calls Tryz.prog 72 #[.slice a (limbs m).length c, .slice b (limbs n).length d] w fun e w' => e = .returned (.int .i64 (cmpN m n)) ∧ w = w' := by
  have := r1cmp_any a b (limbs m) (limbs n) c d w h1 h2 hxl hyl
  rwa [val_limbs, val_limbs] at this
theorem r1inc_lim (a : Option Addr) (m : Nat) (c : Nat) (W : World) (h1 : Rd W a (limbs m)) (hxl : (limbs m).length ≤ 100000) :
    Calls Tryz.prog 74 #[.slice a (limbs m).length c, .slice (some ⟨W.heap.size, 0, none⟩) 1 1] (W.alloc (.cells #[.int .u32 1] 35)) (NatOut (W.alloc (.cells #[.int .u32 1] 35)) (m + 1)) := by
  have := r1add_any a (some ⟨W.heap.size, 0, none⟩) (limbs m) [1] c 1 _ (h1.kp ((Kp.refl W).alloc _)) (rd_new1 W 1 (by decide) 35) (by omega) (by simp)
  rw [val_limbs, show val [1] = 1 by simp [val]] at this
  exact this
theorem cmpN_ne {m n : Nat} : (cmpN m n != 0) = !decide (m = n) := by
  rcases Nat.lt_trichotomy m n with h | h | h
  · rw [cmpN_lt h, decide_eq_false (by omega)]; rfl
  · rw [cmpN_eq h, decide_eq_true h]; rfl
  · rw [cmpN_gt h, decide_eq_false (by omega)]; rfl
set_option maxRecDepth 100000 in
set_option maxHeartbeats 8000000 in
theorem r3cut_any (neg more : Bool) (a : Option Addr) (xs : List Nat) (c : Nat) (e : Int) (p : Nat) (up : Bool) (w : World) (hx : Rd w a xs) (hxc : xs.length ≤ c) (hc : c ≤ maxLen) (hxl : xs.length ≤ 3000) (he0 : -100000 ≤ e) (he1 : e ≤ 100000) (hp0 : 8 ≤ p) (hp1 : p ≤ 512)
    (hm : more = true → p < bits (val xs)) (h0 : val xs = 0 → e ≤ 16384) :
    Calls Tryz.prog 41 #[.bool neg, .slice a xs.length c, .int .i64 e, .bool more, .int .i64 (p : Nat), .bool up] w (NumE w (rndE (rndS neg (val xs) e more p up)).1 (rndE (rndS neg (val xs) e more p up)).2) := by
  obtain ⟨K, hK⟩ : ∃ K : Nat, (K : Int) = max (max ((bits (val xs) : Int) - p) (-16384 - e)) 0 := ⟨(max (max ((bits (val xs) : Int) - p) (-16384 - e)) 0).toNat, by omega⟩
  have HD := Lib.hid (cutX_rnd (neg := neg) (up := up) hp0 hp1 hK hm h0 he1)
  have HOK := Lib.hid (show (cutX neg (val xs) e more p up K).1.ok by rw [HD.out]; exact rndS_ok hp0 hp1)
  rw [← HD.out]
  have hbx : bits (val xs) ≤ 96000 := Nat.le_trans (bits_val_le hx.lt32) (by omega)
  have hK2 : K ≤ 200000 := by omega
  have hll := limbs_len_le hx.lt32
  have HK := Lib.hid hK
  have hB := Box3.new w (.bool false) (.slice none 0 0) (.int .i64 0) 24
  have HT := Lib.hid (r1trim_any a xs c _ (hx.kp ((Kp.refl w).alloc (.cells #[.bool false, .slice none 0 0, .int .i64 0] 24))) hxc hc (by omega))
  have HB := Lib.hid hB
  clear hB hx hm h0 HD hK
  generalize val xs = m at *
  go_enter Tryz.func41, Tryz.ntmps41
  go_wp2_with fail
  with_reducible refine HT.out.mono ?_
  rintro e1 w1 ⟨a1, c1, rfl, l1, m1, r1, k1⟩
  have HB1 := Lib.hid (HB.out.kp k1)
  have hk1 := ((Kp.refl w).alloc _).trans k1
  clear HT HB k1
  go_wp2_with fail
  refine (r1bits_lim a1 m c1 _ r1 (by omega)).mono ?_
  rintro e2 w2 ⟨rfl, rfl⟩
  go_upto_region 3 with fail
  go_cut [15] from 16 (fun s wx => s = .int .i64 (K : Nat) ∧ w1 = wx)
  case first =>
    go_wp2_with fail
    all_goals
      go_meet
      case rel => exact ⟨by congr 1; have := HK.out; omega, rfl⟩
  case rest =>
    obtain ⟨rfl, rfl⟩ := hcut
    go_wp2_with fail
    refine (r1shr_lim a1 m c1 _ K _ r1 (by omega) (by omega) rfl).mono ?_
    rintro e3 w3 ⟨a3, c3, rfl, l3, m3, r3, k3⟩
    have hq3 : (limbs (m / 2 ^ K)).length ≤ 3000 := Nat.le_trans (limbs_length_mono (Nat.div_le_self _ _)) (by omega)
    have hq4 : m / 2 ^ K * 2 ^ K ≤ m := Nat.div_mul_le_self _ _
    have HB3 := Lib.hid (HB1.out.kp k3)
    have hk3 := hk1.trans k3
    have r13 := r1.kp k3
    clear r1 HB1 hk1 k3 HK
    go_upto_region 5 with fail
    go_cut [40] from 18 (fun s wx => s = .bool (decide (0 < K) && !decide (m / 2 ^ K * 2 ^ K = m)) ∧ Kp w3 wx)
    case first =>
      by_cases hK0 : 0 < K
      · have hKi : (0 : Int) < (K : Int) := by omega
        have H1 := Lib.hid (show decide (0 < K) = true from decide_eq_true hK0)
        clear hK0
        go_wp2_with fail
        refine (r1shl_lim a3 (m / 2 ^ K) c3 _ K _ r3 l3 m3 (by omega) (by omega) rfl).mono ?_
        rintro e4 w4 ⟨a4, c4, rfl, l4, m4, r4, k4⟩
        have hl4 := limbs_length_mono hq4
        have Hr4 := Lib.hid r4
        have Hr1 := Lib.hid (r13.kp k4)
        have HN := Lib.hid (@cmpN_ne (m / 2 ^ K * 2 ^ K) m)
        generalize m / 2 ^ K * 2 ^ K = Q at *
        clear r4 l4 m4 hq4
        go_wp2_with fail
        refine (r1cmp_lim a4 a1 Q m c4 c1 _ Hr4.out Hr1.out (by omega) (by omega)).mono ?_
        rintro e5 w5 ⟨rfl, rfl⟩
        go_wp2_with fail
        go_meet
        case rel => exact ⟨by rw [HN.out, H1.out]; rfl, k4⟩
      · have hKi : ¬ (0 : Int) < (K : Int) := by omega
        have H1 := Lib.hid (show decide (0 < K) = false from decide_eq_false hK0)
        clear hK0
        go_wp2_with fail
        go_meet
        case rel => exact ⟨by rw [H1.out]; rfl, Kp.refl _⟩
    case rest =>
      obtain ⟨rfl, k4⟩ := hcut
      obtain ⟨W4, hW4⟩ : ∃ W4 : World, W4 = wc := ⟨_, rfl⟩
      subst hW4
      have r34 := r3.kp k4
      have HB4 := Lib.hid (HB3.out.kp k4)
      have hk4 := hk3.trans k4
      clear r3 r13 HB3 hk3 k4
      go_upto_if 40 with fail
      go_cut [3] from 18 (fun s wx => s = .bool (more || (decide (0 < K) && !decide (m / 2 ^ K * 2 ^ K = m))) ∧ W4 = wx)
      case first =>
        cases hBb : (decide (0 < K) && !decide (m / 2 ^ K * 2 ^ K = m)) with
        | true =>
          have HBb := Lib.hid hBb
          clear hBb
          go_wp2_with fail
          go_meet
          case rel => exact ⟨by rw [HBb.out]; cases more <;> rfl, rfl⟩
        | false =>
          have HBb := Lib.hid hBb
          clear hBb
          go_wp2_with fail
          go_meet
          case rel => exact ⟨by rw [HBb.out]; cases more <;> rfl, rfl⟩
      case rest =>
        obtain ⟨rfl, rfl⟩ := hcut
        go_upto_region 7 with fail
        go_cut [17] from 18 (fun s wx => s = .bool (neg != up) ∧ W4 = wx)
        case first =>
          cases neg <;> cases up <;> (go_wp2_with fail; go_meet; case rel => exact ⟨rfl, rfl⟩)
        case rest =>
          obtain ⟨rfl, rfl⟩ := hcut
          have HQ := Lib.hid (show cutQ m K more (neg != up) = if ((more || (decide (0 < K) && !decide (m / 2 ^ K * 2 ^ K = m))) && (neg != up)) = true then m / 2 ^ K + 1 else m / 2 ^ K from rfl)
          have HX := Lib.hid (show cutX neg m e more p up K = if 0 < bits (cutQ m K more (neg != up)) ∧ 16384 < (bits (cutQ m K more (neg != up)) : Int) + e + K then (if (neg != up) = true then (.zero, 9) else (canon neg (2 ^ p - 1) (16384 - p), 0)) else (canon neg (cutQ m K more (neg != up)) (e + K), 0) from rfl)
          have hQb : bits (cutQ m K more (neg != up)) ≤ 96032 := by
            have h1 : cutQ m K more (neg != up) ≤ m + 1 := by
              have := Nat.div_le_self m (2 ^ K)
              unfold cutQ; split <;> omega
            have h2 := bits_mono h1
            have h3 := bits_add_le hbx (show bits 1 ≤ 96000 by decide)
            omega
          have hQl : (limbs (cutQ m K more (neg != up))).length ≤ 3001 := limbs_of_bits (by omega)
          generalize cutX neg m e more p up K = D at *
          generalize cutQ m K more (neg != up) = Q at *
          generalize (more || (decide (0 < K) && !decide (m / 2 ^ K * 2 ^ K = m))) = mr at *
          generalize m / 2 ^ K = q at *
          generalize (neg != up) = out at *
          clear hq4
          go_upto_region 8 with fail
          go_cut [47] from 18 (fun s wx => s = .bool (mr && out) ∧ W4 = wx)
          case first =>
            cases mr with
            | true =>
              cases out with
              | true =>
                go_wp2_with fail
                go_meet
                case rel => exact ⟨rfl, rfl⟩
              | false =>
                go_wp2_with fail
                go_meet
                case rel => exact ⟨rfl, rfl⟩
            | false =>
              go_wp2_with fail
              go_meet
              case rel => exact ⟨rfl, rfl⟩
          case rest =>
            obtain ⟨rfl, rfl⟩ := hcut
            go_upto_if 47 with fail
            go_cut [16] from 18 (fun s wx => ∃ (a : Option Addr) (c : Nat), s = .slice a (limbs Q).length c ∧ (limbs Q).length ≤ c ∧ c ≤ maxLen ∧ Rd wx a (limbs Q) ∧ Kp W4 wx)
            case first =>
              by_cases hmo : (mr && out) = true
              · obtain ⟨rfl, rfl⟩ : mr = true ∧ out = true := by simpa using hmo
                have HQ2 := Lib.hid (show Q = q + 1 from HQ.out)
                clear hmo HQ
                go_wp2_with fail
                with_reducible refine (r1inc_lim a3 q c3 _ r34 (by omega)).mono ?_
                rintro e6 w6 ⟨a6, c6, rfl, l6, m6, r6, k6⟩
                go_wp2_with fail
                go_meet
                case rel => exact ⟨a6, c6, by rw [HQ2.out], by rw [HQ2.out]; exact l6, m6, by rw [HQ2.out]; exact r6, ((Kp.refl _).alloc _).trans k6⟩
              · have HQ2 := Lib.hid (show Q = q by rw [HQ.out, if_neg hmo])
                have HMO := Lib.hid hmo
                clear hmo HQ
                cases mr with
                | true =>
                  cases out with
                  | true => exact absurd rfl HMO.out
                  | false =>
                    clear HMO
                    go_wp2_with fail
                    go_meet
                    case rel => exact ⟨a3, c3, by rw [HQ2.out], by rw [HQ2.out]; exact l3, m3, by rw [HQ2.out]; exact r34, Kp.refl _⟩
                | false =>
                  clear HMO
                  cases out with
                  | true =>
                    go_wp2_with fail
                    go_meet
                    case rel => exact ⟨a3, c3, by rw [HQ2.out], by rw [HQ2.out]; exact l3, m3, by rw [HQ2.out]; exact r34, Kp.refl _⟩
                  | false =>
                    go_wp2_with fail
                    go_meet
                    case rel => exact ⟨a3, c3, by rw [HQ2.out], by rw [HQ2.out]; exact l3, m3, by rw [HQ2.out]; exact r34, Kp.refl _⟩
            case rest =>
              obtain ⟨a5, c5, rfl, l5, m5, r5, k5⟩ := hcut
              obtain ⟨W5, hW5⟩ : ∃ W5 : World, W5 = wc := ⟨_, rfl⟩
              subst hW5
              have HB5 := HB4.out.kp k5
              have hk5 := hk4.trans k5
              clear r34 HB4 hk4 k5 HQ l3 m3 hq3
              have HO := Lib.hid (r2Of_any neg a5 (limbs Q) c5 (e + K) W5 r5 l5 m5 (by omega) (by omega) (by omega))
              by_cases hb0 : bits Q = 0
              · have hbi : ((bits Q : Nat) : Int) = 0 := by omega
                have HD2 := Lib.hid (show D = (canon neg Q (e + K), 0) by rw [HX.out, if_neg (fun h => by have := h.1; omega)])
                have hb3 : ¬ (0 : Int) < ((bits Q : Nat) : Int) := by omega
                clear hb0 HX hbi
                go_wp2_with fail
                with_reducible refine (r1bits_lim a5 Q c5 _ r5 (by omega)).mono ?_
                rintro e7 w7 ⟨rfl, rfl⟩
                go_wp2_with fail
                have hO := HO.out
                rw [val_limbs] at hO
                with_reducible refine hO.mono ?_
                clear hO HO
                rintro e8 w8 ⟨a8, c8, rfl, r8, l8, m8, k8⟩
                rw [HD2.out] at HOK
                generalize canon neg Q (e + K) = F at *
                obtain ⟨q0, q1, q2, f0, f1, f2⟩ := HB5.kp k8
                have hst := stored q0 q1 q2 (fun _ h => by cases h) (fun _ h => by cases h) (fun _ h => by cases h) (.bool F.neg) (.slice a8 (limbs F.m).length c8) (.int .i64 F.e)
                go_wp2_with fail
                generalize (((w8.setCell _ _).setCell _ _).setCell _ _) = W9 at hst ⊢
                obtain ⟨s0, s1, s2, _, s4, s5, _, _⟩ := hst
                refine bodyPost_ret (v := .tuple #[.agg #[.bool F.neg, .slice a8 (limbs F.m).length c8, .int .i64 F.e], .int .i64 0]) (by simp [results, Tryz.results41, go_sem, s0, s1, s2]) rfl ?_
                rw [HD2.out]
                exact DyE.numc ⟨a8, c8, rfl, s4 _ _ r8, l8, m8, s5 _ (hk5.trans k8) (by omega)⟩ HOK.out
              · have hb3 : (0 : Int) < ((bits Q : Nat) : Int) := by omega
                by_cases hov : (16384 : Int) < (bits Q : Int) + e + K
                · have HD1 := Lib.hid (show D = if out = true then (.zero, 9) else (canon neg (2 ^ p - 1) (16384 - p), 0) by rw [HX.out, if_pos ⟨by omega, hov⟩])
                  clear HX hb0 HO
                  go_wp2_with fail
                  with_reducible refine (r1bits_lim a5 Q c5 _ r5 (by omega)).mono ?_
                  rintro e7 w7 ⟨rfl, rfl⟩
                  go_wp2_with fail
                  with_reducible refine (r1bits_lim a5 Q c5 _ r5 (by omega)).mono ?_
                  rintro e7 w7 ⟨rfl, rfl⟩
                  cases out with
                  | true =>
                    have HD2 := Lib.hid (show D = (.zero, 9) from HD1.out)
                    clear HD1
                    obtain ⟨q0, q1, q2, f0, f1, f2⟩ := HB5
                    have hst := stored q0 q1 q2 (fun _ h => by cases h) (fun _ h => by cases h) (fun _ h => by cases h) (.bool false) (.slice none 0 0) (.int .i64 0)
                    go_wp2_with fail
                    generalize (((W5.setCell _ _).setCell _ _).setCell _ _) = W9 at hst ⊢
                    obtain ⟨s0, s1, s2, _, s4, s5, _, _⟩ := hst
                    refine bodyPost_ret (v := .tuple #[.agg #[.bool false, .slice none 0 0, .int .i64 0], .int .i64 9]) (by simp [results, Tryz.results41, go_sem, s0, s1, s2]) rfl ?_
                    rw [HD2.out]
                    exact numE_zero rfl (s5 _ hk5 (by omega))
                  | false =>
                    have HD2 := Lib.hid (show D = (canon neg (2 ^ p - 1) (16384 - p), 0) from HD1.out)
                    rw [HD2.out] at HOK
                    clear HD1
                    go_wp2_with fail
                    with_reducible refine (r3greatest_any neg p _ hp0 hp1).mono ?_
                    rintro e8 w8 ⟨a8, c8, rfl, r8, l8, m8, k8⟩
                    generalize canon neg (2 ^ p - 1) (16384 - (p : Int)) = F at *
                    obtain ⟨q0, q1, q2, f0, f1, f2⟩ := HB5.kp k8
                    have hst := stored q0 q1 q2 (fun _ h => by cases h) (fun _ h => by cases h) (fun _ h => by cases h) (.bool F.neg) (.slice a8 (limbs F.m).length c8) (.int .i64 F.e)
                    go_wp2_with fail
                    generalize (((w8.setCell _ _).setCell _ _).setCell _ _) = W9 at hst ⊢
                    obtain ⟨s0, s1, s2, _, s4, s5, _, _⟩ := hst
                    refine bodyPost_ret (v := .tuple #[.agg #[.bool F.neg, .slice a8 (limbs F.m).length c8, .int .i64 F.e], .int .i64 0]) (by simp [results, Tryz.results41, go_sem, s0, s1, s2]) rfl ?_
                    rw [HD2.out]
                    exact DyE.numc ⟨a8, c8, rfl, s4 _ _ r8, l8, m8, s5 _ (hk5.trans k8) (by omega)⟩ HOK.out
                · have HD2 := Lib.hid (show D = (canon neg Q (e + K), 0) by rw [HX.out, if_neg (fun h => hov h.2)])
                  clear HX hb0
                  go_wp2_with fail
                  with_reducible refine (r1bits_lim a5 Q c5 _ r5 (by omega)).mono ?_
                  rintro e7 w7 ⟨rfl, rfl⟩
                  go_wp2_with fail
                  with_reducible refine (r1bits_lim a5 Q c5 _ r5 (by omega)).mono ?_
                  rintro e7 w7 ⟨rfl, rfl⟩
                  go_wp2_with fail
                  have hO := HO.out
                  rw [val_limbs] at hO
                  with_reducible refine hO.mono ?_
                  clear hO HO
                  rintro e8 w8 ⟨a8, c8, rfl, r8, l8, m8, k8⟩
                  rw [HD2.out] at HOK
                  generalize canon neg Q (e + K) = F at *
                  obtain ⟨q0, q1, q2, f0, f1, f2⟩ := HB5.kp k8
                  have hst := stored q0 q1 q2 (fun _ h => by cases h) (fun _ h => by cases h) (fun _ h => by cases h) (.bool F.neg) (.slice a8 (limbs F.m).length c8) (.int .i64 F.e)
                  go_wp2_with fail
                  generalize (((w8.setCell _ _).setCell _ _).setCell _ _) = W9 at hst ⊢
                  obtain ⟨s0, s1, s2, _, s4, s5, _, _⟩ := hst
                  refine bodyPost_ret (v := .tuple #[.agg #[.bool F.neg, .slice a8 (limbs F.m).length c8, .int .i64 F.e], .int .i64 0]) (by simp [results, Tryz.results41, go_sem, s0, s1, s2]) rfl ?_
                  rw [HD2.out]
                  exact DyE.numc ⟨a8, c8, rfl, s4 _ _ r8, l8, m8, s5 _ (hk5.trans k8) (by omega)⟩ HOK.out
end Go.Proofs.YtkkiinbgjjjcoaaGreatDoor
end

section
namespace Go.Proofs.YtkkiinbgjjjcoaaGreatDoor
open Go.RowKit

set_option maxHeartbeats 2000000 in
theorem r3exact_any (x : RD) (p : Nat) (up : Bool) (w : World) (hx : x.rd w) (hl : x.xs.length ≤ 3000) (he0 : -100000 ≤ x.e) (he1 : x.e ≤ 100000) (hp0 : 8 ≤ p) (hp1 : p ≤ 512) (h0 : val x.xs = 0 → x.e ≤ 16384) :
    Calls Tryz.prog 24 #[.agg #[.bool x.neg, .slice x.a x.xs.length x.c, .int .i64 x.e], .int .i64 (p : Nat), .bool up] w (NumE w (rndE (rndS x.neg (val x.xs) x.e false p up)).1 (rndE (rndS x.neg (val x.xs) x.e false p up)).2) := by
  have HC := Lib.hid (fun W (k : Kp w W) => r3cut_any x.neg false x.a x.xs x.c x.e p up W (hx.kp k).1 hx.2.1 hx.2.2.1 hl he0 he1 hp0 hp1 (fun h => by cases h) h0)
  generalize (rndE (rndS x.neg (val x.xs) x.e false p up)).1 = D at *
  generalize (rndE (rndS x.neg (val x.xs) x.e false p up)).2 = f at *
  clear h0
  go_enter Tryz.func24, Tryz.ntmps24
  go_wp2_with fail
  generalize hW : ((w.alloc _).alloc _) = W at *
  have hk : Kp w W := hW ▸ ((Kp.refl w).alloc _).alloc _
  have hB : Box3 W (w.heap.size + 1) (.bool false) (.slice none 0 0) (.int .i64 0) := hW ▸ Box3.new2 _ _ _ _ _ _
  clear hW
  with_reducible refine (HC.out _ hk).mono ?_
  rintro e w5 ⟨z, rfl, hzr, hzd, hzv, hk5⟩
  obtain ⟨q0, q1, q2, f0, f1, f2⟩ := hB.kp hk5
  have hk6 := hk.trans hk5
  clear hB hk5
  have hst := stored q0 q1 q2 (fun _ h => by cases h) (fun _ h => by cases h) (fun _ h => by cases h) (.bool z.neg) (.slice z.a z.xs.length z.c) (.int .i64 z.e)
  go_wp2_with fail
  generalize (((w5.setCell _ _).setCell _ _).setCell _ _) = W2 at hst ⊢
  obtain ⟨s0, s1, s2, _, s4, s5, _, _⟩ := hst
  refine bodyPost_ret (v := .tuple #[.agg #[.bool z.neg, .slice z.a z.xs.length z.c, .int .i64 z.e], .int .i64 f]) (by simp [results, Tryz.results24, go_sem, s0, s1, s2]) rfl ?_
  exact ⟨z, rfl, ⟨s4 _ _ hzr.1, hzr.2⟩, hzd, hzv, s5 _ hk6 (by omega)⟩
theorem sumD_e (d f : Dy) : -16384 ≤ (sumD d f).e := by
  unfold sumD ofI canon
  split
  · exact (by decide : (-16384 : Int) ≤ 0)
  · show -16384 ≤ -16384 + (tz _ : Int); omega
theorem sumD_zero0 {d f : Dy} (h : (sumD d f).m = 0) : sumD d f = .zero := by
  unfold sumD ofI canon at h ⊢
  split
  · rfl
  · next h0 =>
    rw [if_neg h0] at h
    have := (oddp_spec h0).1
    have h2 : oddp (d.iv + f.iv).natAbs = 0 := h
    rw [h2] at this
    exact absurd this (by decide)
theorem sum_rnd {d f : Dy} {p : Nat} {up : Bool} (hp : p ≤ 512) : rndS (sumD d f).neg (sumD d f).m (sumD d f).e false p up = rnd 0 (d.iv + f.iv) p up := by
  by_cases h0 : (sumD d f).m = 0
  · have hz := sumD_zero0 h0
    have hi := sumD_iv d f
    rw [hz, Dy.iv_zero] at hi
    rw [hz, ← hi]
    have := rndS_rnd (d := .zero) Dy.ok_zero hp up
    rwa [Dy.iv_zero] at this
  · have he := sumD_e d f
    refine rndS_val (a := 0) (b := ((sumD d f).e + 16384).toNat) h0 ?_ (by omega)
    rw [Int.pow_zero, Int.mul_one, ← sumD_iv]
    unfold Dy.iv sg
    split
    · push_cast; rw [Int.neg_mul]
    · push_cast; rfl
theorem r2sum_dy (x y : RD) (w : World) (hx : x.ok w) (hy : y.ok w) :
    Calls Tryz.prog 27 #[.agg #[.bool x.neg, .slice x.a x.xs.length x.c, .int .i64 x.e], .agg #[.bool y.neg, .slice y.a y.xs.length y.c, .int .i64 y.e]] w (DyOut w (sumD x.dy y.dy)) := by
  have H := r2sum_ok x.dy y.dy x.a y.a x.c y.c w (rdok_at hx) (rdok_at hy)
  rw [rdok_limbs hx, rdok_limbs hy] at H
  exact H
theorem r3exact_dy (D : Dy) (a : Option Addr) (c : Nat) (p : Nat) (up : Bool) (w : World) (hr : Rd w a (limbs D.m)) (hl : (limbs D.m).length ≤ c) (hm : c ≤ maxLen) (hll : (limbs D.m).length ≤ 3000) (he0 : -100000 ≤ D.e) (he1 : D.e ≤ 100000) (hp0 : 8 ≤ p) (hp1 : p ≤ 512) (h0 : D.m = 0 → D.e ≤ 16384) :
    Calls Tryz.prog 24 #[.agg #[.bool D.neg, .slice a (limbs D.m).length c, .int .i64 D.e], .int .i64 (p : Nat), .bool up] w (NumE w (rndE (rndS D.neg D.m D.e false p up)).1 (rndE (rndS D.neg D.m D.e false p up)).2) := by
  have := r3exact_any ⟨D.neg, a, limbs D.m, c, D.e⟩ p up w ⟨hr, hl, hm, by show (limbs D.m).length ≤ 1100000; omega, by show _ ≤ D.e; omega, by show D.e ≤ _; omega⟩ hll he0 he1 hp0 hp1 (by rw [val_limbs]; exact h0)
  rw [val_limbs] at this
  exact this
set_option maxHeartbeats 4000000 in
set_option maxRecDepth 100000 in
theorem r3add_any (x y : RD) (p : Int) (up : Bool) (w : World) (hx : x.rd w) (hy : y.rd w) :
    Calls Tryz.prog 12 #[.agg #[.bool x.neg, .slice x.a x.xs.length x.c, .int .i64 x.e], .agg #[.bool y.neg, .slice y.a y.xs.length y.c, .int .i64 y.e], .int .i64 p, .bool up] w (NumE w (addB x y p up).1 (addB x y p up).2) := by
  obtain ⟨D, hD⟩ : ∃ D, D = addB x y p up := ⟨_, rfl⟩
  have HD := Lib.hid hD
  rw [← hD]
  clear hD
  go_enter Tryz.func12, Tryz.ntmps12
  go_wp2_with fail
  generalize hW : (((w.alloc _).alloc _).alloc _) = W at *
  have hk : Kp w W := hW ▸ (((Kp.refl w).alloc _).alloc _).alloc _
  have hS : W.cell? ⟨w.heap.size, 0, none⟩ = some (.bool x.neg) ∧ W.cell? ⟨w.heap.size, 1, none⟩ = some (.slice x.a x.xs.length x.c) ∧ W.cell? ⟨w.heap.size, 2, none⟩ = some (.int .i64 x.e) ∧ W.cell? ⟨w.heap.size + 1, 0, none⟩ = some (.bool y.neg) ∧ W.cell? ⟨w.heap.size + 1, 1, none⟩ = some (.slice y.a y.xs.length y.c) ∧ W.cell? ⟨w.heap.size + 1, 2, none⟩ = some (.int .i64 y.e) := by rw [← hW]; exact keep6 ((Kp.refl _).alloc _) (by simp)
  have hB : Box3 W (w.heap.size + 2) (.bool false) (.slice none 0 0) (.int .i64 0) := hW ▸ Box3.new3 _ _ _ _ _ _ _
  clear hW
  refine (r3fault_any x y p _ (hx.kp hk) (hy.kp hk)).mono ?_
  rintro e w1 ⟨rfl, hk1⟩
  have hS1 := keepRR hk1 hS
  have hB1 := hB.kp hk1
  have hk2 := hk.trans hk1
  clear hS hB hk hk1
  by_cases h0 : fltB p [x, y] = 0
  · obtain ⟨hv, hp0, hp1⟩ := fltB_zero.1 h0
    obtain ⟨q, rfl⟩ := Int.eq_ofNat_of_zero_le (show 0 ≤ p by omega)
    have hxo : x.ok w1 := ⟨hx.kp hk2, by simpa using (List.all_eq_true.1 hv) x (by simp)⟩
    have hyo : y.ok w1 := ⟨hy.kp hk2, by simpa using (List.all_eq_true.1 hv) y (by simp)⟩
    have HD2 := Lib.hid (show D = rndE (rndS (sumD x.dy y.dy).neg (sumD x.dy y.dy).m (sumD x.dy y.dy).e false q up) by
      rw [HD.out, sum_rnd (by omega)]; unfold addB; rw [if_pos h0]; rfl)
    rw [h0]
    clear h0 hv HD
    obtain ⟨hsl, hse⟩ := sumD_small (rdok_dy hxo) (rdok_dy hyo)
    have hse0 := sumD_e x.dy y.dy
    have hse1 : (sumD x.dy y.dy).e ≤ 100000 := by
      have h1 := bits_add_le (av_bits_le (rdok_dy hxo)) (av_bits_le (rdok_dy hyo))
      have h2 : (x.dy.iv + y.dy.iv).natAbs ≤ x.dy.av + y.dy.av := by
        rw [Dy.iv_av, Dy.iv_av]
        unfold sg
        split <;> split <;> omega
      have h3 := Nat.le_trans (bits_mono h2) h1
      unfold sumD ofI canon
      split
      · exact (by decide : (0 : Int) ≤ 100000)
      · next h0 => have := bits_of_nz h0; show -16384 + (tz _ : Int) ≤ 100000; omega
    have HZ := Lib.hid (@sumD_zero0 x.dy y.dy)
    obtain ⟨s0, s1, s2, t0, t1, t2⟩ := hS1
    have HS := Lib.hid (r2sum_dy x y w1 hxo hyo)
    clear hxo hyo
    go_wp2_with fail
    refine HS.out.mono ?_
    rintro e w3 ⟨a3, c3, rfl, r3, l3, m3, k3⟩
    have hEx := r3exact_dy (sumD x.dy y.dy) a3 c3 q up w3 r3 l3 m3 (by omega) (by omega) hse1 (by omega) (by omega) (fun h => by rw [HZ.out h]; decide)
    rw [← HD2.out] at hEx
    have HE := Lib.hid hEx
    clear hEx HS HZ s0 s1 s2 t0 t1 t2 hse hse0 hse1 hsl
    generalize sumD x.dy y.dy = G at *
    go_wp2_with fail
    refine HE.out.mono ?_
    rintro e w5 ⟨z, rfl, hzr, hzd, hzv, hk5⟩
    obtain ⟨q0, q1, q2, f0, f1, f2⟩ := (hB1.kp k3).kp hk5
    have hk6 := (hk2.trans k3).trans hk5
    clear hB1 hk5 HE r3
    have hst := stored q0 q1 q2 (fun _ h => by cases h) (fun _ h => by cases h) (fun _ h => by cases h) (.bool z.neg) (.slice z.a z.xs.length z.c) (.int .i64 z.e)
    go_wp2_with fail
    generalize (((w5.setCell _ _).setCell _ _).setCell _ _) = W2 at hst ⊢
    obtain ⟨s0, s1, s2, _, s4, s5, _, _⟩ := hst
    refine bodyPost_ret (v := .tuple #[.agg #[.bool z.neg, .slice z.a z.xs.length z.c, .int .i64 z.e], .int .i64 D.2]) (by simp [results, Tryz.results12, go_sem, s0, s1, s2]) rfl ?_
    exact ⟨z, rfl, ⟨s4 _ _ hzr.1, hzr.2⟩, hzd, hzv, s5 _ hk6 (by omega)⟩
  · have hz2 : (fltB p [x, y] != 0) = true := by simpa using h0
    have HD2 := Lib.hid (show D = (.zero, fltB p [x, y]) by rw [HD.out]; unfold addB; rw [if_neg h0])
    clear h0 hS1
    obtain ⟨q0, q1, q2, f0, f1, f2⟩ := hB1
    go_wp2_with fail
    have hst := stored q0 q1 q2 (fun _ h => by cases h) (fun _ h => by cases h) (fun _ h => by cases h) (.bool false) (.slice none 0 0) (.int .i64 0)
    generalize (((w1.setCell _ _).setCell _ _).setCell _ _) = W9 at hst ⊢
    obtain ⟨s0, s1, s2, _, s4, s5, _, _⟩ := hst
    refine bodyPost_ret (v := .tuple #[.agg #[.bool false, .slice none 0 0, .int .i64 0], .int .i64 (fltB p [x, y])]) (by simp [results, Tryz.results12, go_sem, s0, s1, s2]) rfl ?_
    rw [HD2.out]
    exact numE_zero rfl (s5 _ hk2 (by omega))
end Go.Proofs.YtkkiinbgjjjcoaaGreatDoor
end

section
namespace Go.Proofs.YtkkiinbgjjjcoaaGreatDoor
open Go.RowKit

theorem addB_ok (x y : RD) (p : Int) (up : Bool) : (addB x y p up).1.ok := by
  unfold addB
  split
  · next h0 =>
    obtain ⟨_, h1, h2⟩ := fltB_zero.1 h0
    cases up with
    | false =>
      cases hr : rnd 0 (x.iv + y.iv) p.toNat false with
      | none => exact Dy.ok_zero
      | some d => exact (down_spec (by omega) (by omega) hr).1.1
    | true =>
      cases hr : rnd 0 (x.iv + y.iv) p.toNat true with
      | none => exact Dy.ok_zero
      | some d => exact (up_spec (by omega) (by omega) hr).1.1
  · exact Dy.ok_zero
theorem addB_zero (x y : RD) (p : Int) (up : Bool) (h : (addB x y p up).2 ≠ 0) : (addB x y p up).1 = .zero := by
  unfold addB at h ⊢
  split
  · next h0 =>
    rw [if_pos h0] at h
    cases hr : rnd 0 (x.iv + y.iv) p.toNat up with
    | none => rfl
    | some d => rw [hr] at h; exact absurd rfl h
  · rfl
set_option maxHeartbeats 2000000 in
theorem is_ok (a b : RD) (ec : Int) (w : World) (ha : a.ok w) (hb : b.ok w) (h : a.dy = b.dy) (he : ec ≠ 0 → a.dy = .zero) :
    Calls Tryz.prog 10 #[.agg #[.bool a.neg, .slice a.a a.xs.length a.c, .int .i64 a.e], .int .i64 ec, .agg #[.bool b.neg, .slice b.a b.xs.length b.c, .int .i64 b.e], .int .i64 ec] w fun e w' => e = .returned (.bool true) ∧ Kp w w' := by
  have HS := Lib.hid (sameR_dy ha hb h)
  have HL := Lib.hid (fun k : ec ≠ 0 => (rdok_zero ha).2 (by rw [he k]; rfl))
  have RA := ha.1
  have RB := hb.1
  clear ha hb h he
  go_enter Tryz.func10, Tryz.ntmps10
  go_wp2_with fail
  generalize hW : ((w.alloc _).alloc _) = W at *
  have hk : Kp w W := hW ▸ ((Kp.refl w).alloc _).alloc _
  have hS : W.cell? ⟨w.heap.size, 0, none⟩ = some (.bool a.neg) ∧ W.cell? ⟨w.heap.size, 1, none⟩ = some (.slice a.a a.xs.length a.c) ∧ W.cell? ⟨w.heap.size, 2, none⟩ = some (.int .i64 a.e) := by rw [← hW]; exact keep3 ((Kp.refl _).alloc _) (by simp)
  clear hW
  refine (same_any a b _ (RA.kp hk) (RB.kp hk)).mono ?_
  rw [HS.out]
  rintro e w1 ⟨rfl, k1⟩
  have h1 := hk.trans k1
  obtain ⟨s0, s1, s2⟩ := keep3 k1 hS
  clear hS hk k1
  by_cases hz : ec = 0
  · subst hz
    clear s0 s1 s2
    go_wp2_with fail
    go_ret
    exact ⟨rfl, h1⟩
  · have hl : ((a.xs.length : Int) == 0) = true := beq_iff_eq.2 (by have := HL.out hz; omega)
    have hz2 : (ec == 0) = false := beq_eq_false_iff_ne.2 hz
    go_wp2_with fail
    go_ret
    exact ⟨rfl, h1⟩
set_option maxRecDepth 100000 in
set_option maxHeartbeats 16000000 in
theorem Sums_ok (x y : RD) (p : Int) (w : World) (hx : x.rd w) (hy : y.rd w) (hT : Tab w) :
    Calls Tryz.prog 4 #[.agg #[.bool x.neg, .slice x.a x.xs.length x.c, .int .i64 x.e], .agg #[.bool y.neg, .slice y.a y.xs.length y.c, .int .i64 y.e], .int .i64 p] w fun e w' => e = .returned (.bool true) ∧ Kp w w' := by
  go_enter Tryz.func4, Tryz.ntmps4
  go_upto_region 1 with fail
  generalize hW : ((w.alloc _).alloc _) = W at *
  have hk : Kp w W := hW ▸ ((Kp.refl w).alloc _).alloc _
  have hS : W.cell? ⟨w.heap.size, 0, none⟩ = some (.bool x.neg) ∧ W.cell? ⟨w.heap.size, 1, none⟩ = some (.slice x.a x.xs.length x.c) ∧ W.cell? ⟨w.heap.size, 2, none⟩ = some (.int .i64 x.e) ∧ W.cell? ⟨w.heap.size + 1, 0, none⟩ = some (.bool y.neg) ∧ W.cell? ⟨w.heap.size + 1, 1, none⟩ = some (.slice y.a y.xs.length y.c) ∧ W.cell? ⟨w.heap.size + 1, 2, none⟩ = some (.int .i64 y.e) := by rw [← hW]; exact keep6 (Kp.refl _) (by simp)
  clear hW
  go_cut [16] from 7 (fun s wx => s = .bool false ∧ Kp W wx)
  case first =>
    go_wp2_with fail
    refine (awake3_ok _ (hT.kp hk)).mono ?_
    rintro e w1 ⟨rfl, k1⟩
    go_wp2_with fail
    go_meet
    case rel => exact ⟨rfl, k1⟩
  case rest =>
    obtain ⟨rfl, k1⟩ := hcut
    have hS1 := keepRR k1 hS
    have h1 := hk.trans k1
    clear hk k1 hS
    obtain ⟨W1, hW1⟩ : ∃ W1 : World, W1 = wc := ⟨_, rfl⟩
    subst hW1
    obtain ⟨s0, s1, s2, t0, t1, t2⟩ := id hS1
    have hrow := rowD_two W1 x y (hx.kp h1) (hy.kp h1) 24
    have ka := (Kp.refl W1).alloc (.cells #[.bool x.neg, .slice x.a x.xs.length x.c, .int .i64 x.e, .bool y.neg, .slice y.a y.xs.length y.c, .int .i64 y.e] 24)
    go_wp2_with fail
    refine (great_any _ [x, y] 2 _ hrow (by simp)).mono ?_
    rintro e w2 ⟨rfl, k2⟩
    have hS2 := keepRR (ka.trans k2) hS1
    have h2 := h1.trans (ka.trans k2)
    clear k2 hrow ka s0 s1 s2 t0 t1 t2 hS1 h1
    cases hg : [x, y].any lng2 with
    | true =>
      clear hg hS2
      go_wp2_with fail
      go_ret
      exact ⟨rfl, h2⟩
    | false =>
      clear hg
      obtain ⟨s0, s1, s2, t0, t1, t2⟩ := id hS2
      go_wp2_with fail
      clear s0 s1 s2 t0 t1 t2
      refine (rAddDown_of x y p _ _ _ (fun W k => add_rd x y p false W (hx.kp (h2.trans k)) (hy.kp (h2.trans k)) (hT.kp (h2.trans k)))).mono ?_
      rintro e w3 ⟨z1, rfl, rz, dz, vz, k3⟩
      have ka := (Kp.refl w3).alloc (.cells #[.bool z1.neg, .slice z1.a z1.xs.length z1.c, .int .i64 z1.e] 24)
      have k3a := k3.trans ka
      have o1 := Lib.hid ((show z1.ok w3 from ⟨rz, vz (addB_ok x y p false)⟩).kp ka)
      have D1 := Lib.hid dz
      have hS3 := keepRR k3a hS2
      have h3 := h2.trans k3a
      clear hS2 h2 k3 k3a rz dz vz
      obtain ⟨s0, s1, s2, t0, t1, t2⟩ := id hS3
      go_wp2_with fail
      generalize hA3 : w3.alloc _ = A3 at *
      have hZ1 : A3.cell? ⟨w3.heap.size, 0, none⟩ = some (.bool z1.neg) ∧ A3.cell? ⟨w3.heap.size, 1, none⟩ = some (.slice z1.a z1.xs.length z1.c) ∧ A3.cell? ⟨w3.heap.size, 2, none⟩ = some (.int .i64 z1.e) := by rw [← hA3]; simp
      clear hA3 ka s0 s1 s2 t0 t1 t2
      refine (r3add_any x y p false _ (hx.kp h3) (hy.kp h3)).mono ?_
      rintro e w4 ⟨z2, rfl, rz, dz, vz, k4⟩
      have ka := (Kp.refl w4).alloc (.cells #[.bool z2.neg, .slice z2.a z2.xs.length z2.c, .int .i64 z2.e] 24)
      have k4a := k4.trans ka
      have o2 := Lib.hid ((show z2.ok w4 from ⟨rz, vz (addB_ok x y p false)⟩).kp ka)
      have D2 := Lib.hid dz
      have o1b := Lib.hid (o1.out.kp k4a)
      have hS4 := keepRR k4a hS3
      have hZ1b := keep3 k4a hZ1
      have h4 := h3.trans k4a
      clear hS3 hZ1 h3 k4 k4a rz dz vz o1
      obtain ⟨s0, s1, s2, t0, t1, t2⟩ := id hS4
      go_wp2_with fail
      generalize hA4 : w4.alloc _ = A4 at *
      have hZ2 : A4.cell? ⟨w4.heap.size, 0, none⟩ = some (.bool z2.neg) ∧ A4.cell? ⟨w4.heap.size, 1, none⟩ = some (.slice z2.a z2.xs.length z2.c) ∧ A4.cell? ⟨w4.heap.size, 2, none⟩ = some (.int .i64 z2.e) := by rw [← hA4]; simp
      clear hA4 ka s0 s1 s2 t0 t1 t2
      refine (rAddUp_of x y p _ _ _ (fun W k => add_rd x y p true W (hx.kp (h4.trans k)) (hy.kp (h4.trans k)) (hT.kp (h4.trans k)))).mono ?_
      rintro e w5 ⟨z3, rfl, rz, dz, vz, k5⟩
      have ka := (Kp.refl w5).alloc (.cells #[.bool z3.neg, .slice z3.a z3.xs.length z3.c, .int .i64 z3.e] 24)
      have k5a := k5.trans ka
      have o3 := Lib.hid ((show z3.ok w5 from ⟨rz, vz (addB_ok x y p true)⟩).kp ka)
      have D3 := Lib.hid dz
      have o1c := Lib.hid (o1b.out.kp k5a)
      have o2c := Lib.hid (o2.out.kp k5a)
      have hS5 := keepRR k5a hS4
      have hZ1c := keep3 k5a hZ1b
      have hZ2c := keep3 k5a hZ2
      have h5 := h4.trans k5a
      clear hS4 hZ1b hZ2 h4 k5 k5a rz dz vz o1b o2
      obtain ⟨s0, s1, s2, t0, t1, t2⟩ := id hS5
      go_wp2_with fail
      generalize hA5 : w5.alloc _ = A5 at *
      have hZ3 : A5.cell? ⟨w5.heap.size, 0, none⟩ = some (.bool z3.neg) ∧ A5.cell? ⟨w5.heap.size, 1, none⟩ = some (.slice z3.a z3.xs.length z3.c) ∧ A5.cell? ⟨w5.heap.size, 2, none⟩ = some (.int .i64 z3.e) := by rw [← hA5]; simp
      clear hA5 ka s0 s1 s2 t0 t1 t2
      refine (r3add_any x y p true _ (hx.kp h5) (hy.kp h5)).mono ?_
      rintro e w6 ⟨z4, rfl, rz, dz, vz, k6⟩
      have ka := (Kp.refl w6).alloc (.cells #[.bool z4.neg, .slice z4.a z4.xs.length z4.c, .int .i64 z4.e] 24)
      have k6a := k6.trans ka
      have o4 := Lib.hid ((show z4.ok w6 from ⟨rz, vz (addB_ok x y p true)⟩).kp ka)
      have D4 := Lib.hid dz
      have o1d := Lib.hid (o1c.out.kp k6a)
      have o2d := Lib.hid (o2c.out.kp k6a)
      have o3d := Lib.hid (o3.out.kp k6a)
      obtain ⟨a0, a1, a2⟩ := keep3 k6a hZ1c
      obtain ⟨b0, b1, b2⟩ := keep3 k6a hZ2c
      have hZ3d := keep3 k6a hZ3
      have h6 := h5.trans k6a
      clear hS5 hZ1c hZ2c hZ3 h5 k6 k6a rz dz vz o1c o2c o3
      go_upto_region 9 with fail
      generalize hA6 : w6.alloc _ = A6 at *
      have hZ4 : A6.cell? ⟨w6.heap.size, 0, none⟩ = some (.bool z4.neg) ∧ A6.cell? ⟨w6.heap.size, 1, none⟩ = some (.slice z4.a z4.xs.length z4.c) ∧ A6.cell? ⟨w6.heap.size, 2, none⟩ = some (.int .i64 z4.e) := by rw [← hA6]; simp
      clear hA6 ka
      have E1 := Lib.hid (is_ok z1 z2 (addB x y p false).2 A6 o1d.out o2d.out (D1.out.trans D2.out.symm) (fun h => D1.out.trans (addB_zero x y p false h)))
      go_wp2_with fail
      refine E1.out.mono ?_
      rintro e w7 ⟨rfl, k7⟩
      have E2 := Lib.hid (is_ok z3 z4 (addB x y p true).2 w7 (o3d.out.kp k7) (o4.out.kp k7) (D3.out.trans D4.out.symm) (fun h => D3.out.trans (addB_zero x y p true h)))
      obtain ⟨c0, c1, c2⟩ := keep3 k7 hZ3d
      obtain ⟨d0, d1, d2⟩ := keep3 k7 hZ4
      clear a0 a1 a2 b0 b1 b2 hZ3d hZ4
      go_wp2_with fail
      refine E2.out.mono ?_
      rintro e w8 ⟨rfl, k8⟩
      go_wp2_with fail
      go_ret
      exact ⟨rfl, (h6.trans k7).trans k8⟩
end Go.Proofs.YtkkiinbgjjjcoaaGreatDoor
end
