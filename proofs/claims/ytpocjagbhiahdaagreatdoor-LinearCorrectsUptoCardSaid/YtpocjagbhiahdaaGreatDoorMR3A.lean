/-
  Walks: the third reference's Prec, fault, greatest; plain: what Cut computes.
-/
import Derived.Test.YtpocjagbhiahdaaGreatDoorMRoAdd
import Derived.Test.YtpocjagbhiahdaaGreatDoorMR2I
import Derived.Test.YtpocjagbhiahdaaGreatDoorMDscN
import Derived.Test.YtpocjagbhiahdaaGreatDoorMR2H
import Derived.Deep.DeepFit
namespace Go.Proofs.YtpocjagbhiahdaaGreatDoor
open Go.RowKit
theorem r3prec_any (p : Int) (w : World) :
    Calls Tryz.prog 86 #[.int .i64 p] w fun e w' => e = .returned (.bool (preB p)) ∧ w = w' := by
  by_cases h1 : 8 ≤ p
  rotate_left
  · have H := Lib.hid (show preB p = false from decide_eq_false (fun h => h1 h.1))
    go_enter Tryz.func86, Tryz.ntmps86
    go_wp2_with fail
    go_ret
    exact ⟨ret_bool H.out.symm, rfl⟩
  by_cases h2 : p ≤ 512
  · have H := Lib.hid (show preB p = true from decide_eq_true ⟨h1, h2⟩)
    go_enter Tryz.func86, Tryz.ntmps86
    go_wp2_with fail
    go_ret
    exact ⟨ret_bool H.out.symm, rfl⟩
  have H := Lib.hid (show preB p = false from decide_eq_false (fun h => h2 h.2))
  go_enter Tryz.func86, Tryz.ntmps86
  go_wp2_with fail
  go_ret
  exact ⟨ret_bool H.out.symm, rfl⟩
theorem r2Valid_rd (x : RD) (w : World) (h : x.rd w) :
    Calls Tryz.prog 83 #[.agg #[.bool x.neg, .slice x.a x.xs.length x.c, .int .i64 x.e]] w fun e w' => e = .returned (.bool x.vl) ∧ Kp w w' := r2Valid_any x.neg x.a x.xs x.c x.e w h.1 h.2.2.2.1 h.2.2.2.2
set_option maxHeartbeats 2000000 in
theorem r3fault_any (x y : RD) (p : Int) (w : World) (hx : x.rd w) (hy : y.rd w) :
    Calls Tryz.prog 98 #[.agg #[.bool x.neg, .slice x.a x.xs.length x.c, .int .i64 x.e], .agg #[.bool y.neg, .slice y.a y.xs.length y.c, .int .i64 y.e], .int .i64 p] w fun e w' => e = .returned (.int .i64 (fltB p [x, y])) ∧ Kp w w' := by
  have H := Lib.hid (show fltB p [x, y] = if ([x, y] : List RD).all RD.vl then (if preB p then 0 else 2) else 1 from rfl)
  go_enter Tryz.func98, Tryz.ntmps98
  go_wp2_with fail
  generalize hW : ((w.alloc _).alloc _) = W at *
  have hk : Kp w W := hW ▸ ((Kp.refl w).alloc _).alloc _
  have hS : W.cell? ⟨w.heap.size, 0, none⟩ = some (.bool x.neg) ∧ W.cell? ⟨w.heap.size, 1, none⟩ = some (.slice x.a x.xs.length x.c) ∧ W.cell? ⟨w.heap.size, 2, none⟩ = some (.int .i64 x.e) ∧ W.cell? ⟨w.heap.size + 1, 0, none⟩ = some (.bool y.neg) ∧ W.cell? ⟨w.heap.size + 1, 1, none⟩ = some (.slice y.a y.xs.length y.c) ∧ W.cell? ⟨w.heap.size + 1, 2, none⟩ = some (.int .i64 y.e) := by rw [← hW]; simp
  clear hW
  refine (r2Valid_rd x _ (hx.kp hk)).mono ?_
  rintro e w1 ⟨rfl, k1⟩
  have h1 := hk.trans k1
  obtain ⟨s0, s1, s2, t0, t1, t2⟩ := keepRR k1 hS
  clear hS hk k1
  cases hvx : x.vl with
  | false =>
    have HH := Lib.hid (show fltB p [x, y] = 1 by rw [H.out]; simp [hvx])
    clear H hvx
    go_wp2_with fail
    go_ret
    exact ⟨ret_int HH.out.symm, h1⟩
  | true =>
  go_wp2_with fail
  refine (r2Valid_rd y _ (hy.kp h1)).mono ?_
  rintro e w2 ⟨rfl, k2⟩
  have h2 := h1.trans k2
  clear s0 s1 s2 t0 t1 t2 h1 k2
  cases hvy : y.vl with
  | false =>
    have HH := Lib.hid (show fltB p [x, y] = 1 by rw [H.out]; simp [hvy])
    clear H hvx hvy
    go_wp2_with fail
    go_ret
    exact ⟨ret_int HH.out.symm, h2⟩
  | true =>
  have H2 := Lib.hid (show fltB p [x, y] = if preB p then 0 else 2 by rw [H.out]; simp [hvx, hvy])
  clear H hvx hvy
  go_wp2_with fail
  refine (r3prec_any p _).mono ?_
  rintro e w3 ⟨rfl, rfl⟩
  cases hp : preB p with
  | false =>
    rw [hp] at H2
    clear hp
    go_wp2_with fail
    go_ret
    exact ⟨ret_int H2.out.symm, h2⟩
  | true =>
  rw [hp] at H2
  clear hp
  go_wp2_with fail
  go_ret
  exact ⟨ret_int H2.out.symm, h2⟩
theorem r1shl_int (a : Option Addr) (xs : List Nat) (c : Nat) (j : Int) (n : Nat) (w : World) (h1 : Rd w a xs) (hxc : xs.length ≤ c) (hc : c ≤ maxLen) (hxl : xs.length ≤ 100000) (hn : n ≤ 20000000) (hj : j = n) :
    Calls Tryz.prog 102 #[.slice a xs.length c, .int .i64 j] w (NatOut w (val xs * 2 ^ n)) := by subst hj; exact r1shl_any a xs c n w h1 hxc hc hxl hn
theorem r1shr_int (a : Option Addr) (xs : List Nat) (c : Nat) (j : Int) (n : Nat) (w : World) (h1 : Rd w a xs) (hxl : xs.length ≤ 1000000) (hn : n ≤ 40000000) (hj : j = n) :
    Calls Tryz.prog 145 #[.slice a xs.length c, .int .i64 j] w (NatOut w (val xs / 2 ^ n)) := by subst hj; exact r1shr_any a xs c n w h1 hxl hn
theorem rd_new1 (w : World) (x : Nat) (hx : x < 4294967296) (t : TypeId) : Rd (w.alloc (.cells #[.int .u32 (x : Int)] t)) (some ⟨w.heap.size, 0, none⟩) [x] :=
  ⟨.cons hx .nil, .inr ⟨_, 0, rfl, fun i hi => by
    have : i = 0 := by simpa using hi
    subst this
    simp [nth_cons_zero]⟩⟩
set_option maxRecDepth 100000 in
set_option maxHeartbeats 2000000 in
theorem r3greatest_any (s : Bool) (p : Nat) (w : World) (h0 : 8 ≤ p) (h1 : p ≤ 512) :
    Calls Tryz.prog 148 #[.bool s, .int .i64 (p : Nat)] w (DyOut w (canon s (2 ^ p - 1) (16384 - p))) := by
  have hlen : (limbs (2 ^ p)).length ≤ 17 := limbs_of_bits (by rw [bits_two_pow]; omega)
  have hlen2 : (limbs (2 ^ p - 1)).length ≤ 17 := Nat.le_trans (limbs_length_mono (Nat.sub_le _ _)) hlen
  have hpos : 1 ≤ 2 ^ p := two_pow_pos p
  have hl1 : 1 ≤ (limbs (2 ^ p)).length := by
    have := limbs_length_mono hpos
    rwa [limbs_single (by decide) (by decide)] at this
  have hv1 : val [1] = 1 := by simp [val]
  have HS := Lib.hid (fun (W : World) => show Calls Tryz.prog 102 #[.slice (some ⟨W.heap.size, 0, none⟩) 1 1, .int .i64 (p : Nat)] (W.alloc (.cells #[.int .u32 1] 103)) (NatOut (W.alloc (.cells #[.int .u32 1] 103)) (2 ^ p)) by
    have := r1shl_any (some ⟨W.heap.size, 0, none⟩) [1] 1 p _ (rd_new1 W 1 (by decide) 103) (by simp) (by unfold maxLen; omega) (by simp) (by omega)
    rw [hv1, Nat.one_mul] at this
    exact this)
  have HU := Lib.hid (fun (W : World) (a : Option Addr) (c : Nat) (hr : Rd W a (limbs (2 ^ p))) => show Calls Tryz.prog 179 #[.slice a (limbs (2 ^ p)).length c, .slice (some ⟨W.heap.size, 0, none⟩) 1 1] (W.alloc (.cells #[.int .u32 1] 103)) (NatOut (W.alloc (.cells #[.int .u32 1] 103)) (2 ^ p - 1)) by
    have := r1sub_any a (some ⟨W.heap.size, 0, none⟩) (limbs (2 ^ p)) [1] c 1 _ (hr.kp ((Kp.refl W).alloc _)) (rd_new1 W 1 (by decide) 103) (by omega) (by simpa using hl1) (by rw [val_limbs, hv1]; exact hpos)
    rw [hv1, val_limbs] at this
    exact this)
  have Hlen := Lib.hid hlen2
  clear hlen hlen2 hl1 hpos hv1
  have hB := Box3.new w (.bool false) (.slice none 0 0) (.int .i64 0) 42
  have HB := Lib.hid hB
  clear hB
  generalize 2 ^ p = T at *
  have HS1 := HS.out (w.alloc (.cells #[.bool false, .slice none 0 0, .int .i64 0] 42))
  rw [World.size_alloc] at HS1
  have HS2 := Lib.hid HS1
  clear HS HS1
  go_enter Tryz.func148, Tryz.ntmps148
  go_wp2_with fail
  with_reducible refine HS2.out.mono ?_
  rintro e w2 ⟨a2, c2, rfl, l2, m2, r2, k2⟩
  go_wp2_with fail
  with_reducible refine (HU.out _ _ _ r2).mono ?_
  rintro e w3 ⟨a3, c3, rfl, l3, m3, r3, k3⟩
  go_wp2_with fail
  refine (r2Of_lim s a3 (T - 1) c3 _ _ r3 l3 m3 (by have := Hlen.out; omega) (by omega) (by omega)).mono ?_
  rintro e w4 ⟨a4, c4, rfl, r4, l4, m4, k4⟩
  have hk2 := ((((Kp.refl (w.alloc (.cells #[.bool false, .slice none 0 0, .int .i64 0] 42))).alloc _).trans k2).alloc _).trans (k3.trans k4)
  obtain ⟨q0, q1, q2, f0, f1, f2⟩ := HB.out.kp hk2
  have hk := ((Kp.refl w).alloc _).trans hk2
  generalize canon s (T - 1) (16384 - (p : Int)) = D at *
  have hst := stored q0 q1 q2 (fun _ h => by cases h) (fun _ h => by cases h) (fun _ h => by cases h) (.bool D.neg) (.slice a4 (limbs D.m).length c4) (.int .i64 D.e)
  go_wp2_with fail
  generalize (((w4.setCell _ _).setCell _ _).setCell _ _) = W at hst ⊢
  obtain ⟨s0, s1, s2, _, s4, s5, _, _⟩ := hst
  refine bodyPost_ret (v := .agg #[.bool D.neg, .slice a4 (limbs D.m).length c4, .int .i64 D.e]) (by simp [results, Tryz.results148, go_sem, s0, s1, s2]) rfl ?_
  exact ⟨a4, c4, rfl, s4 _ _ r4, l4, m4, s5 _ hk (by omega)⟩
def cutQ (m K : Nat) (more out : Bool) : Nat := if (more || (decide (0 < K) && !decide (m / 2 ^ K * 2 ^ K = m))) && out then m / 2 ^ K + 1 else m / 2 ^ K
def cutX (neg : Bool) (m : Nat) (e : Int) (more : Bool) (p : Nat) (up : Bool) (K : Nat) : Dy × Int :=
  if 0 < bits (cutQ m K more (neg != up)) ∧ 16384 < (bits (cutQ m K more (neg != up)) : Int) + e + K then
    (if (neg != up) = true then (.zero, 9) else (canon neg (2 ^ p - 1) (16384 - p), 0))
  else (canon neg (cutQ m K more (neg != up)) (e + K), 0)
theorem canon_opp (q : Nat) (u : Int) : (canon false q u).opp = canon true q u := by
  unfold canon
  split
  · exact zero_opp
  next h =>
  have := (oddp_spec h).1
  unfold Dy.opp
  rw [if_neg (show oddp q ≠ 0 by intro k; rw [k] at this; exact absurd this (by decide))]
  rfl
theorem cutX_rnd {neg more : Bool} {m p K : Nat} {e : Int} {up : Bool} (hp : 8 ≤ p) (hp2 : p ≤ 512) (hK : (K : Int) = max (max ((bits m : Int) - p) (-16384 - e)) 0) (hm : more = true → p < bits m) (h0 : m = 0 → e ≤ 16384) (he : e ≤ 100000) :
    cutX neg m e more p up K = rndE (rndS neg m e more p up) := by
  have hb1 : (neg != up) = (up != neg) := by cases neg <;> cases up <;> rfl
  have key : ∀ u : Bool, (if 0 < bits (cutQ m K more u) ∧ 16384 < (bits (cutQ m K more u) : Int) + e + K then (if u = true then none else some (canon false (2 ^ p - 1) (16384 - p))) else some (canon false (cutQ m K more u) (e + K))) = rcut m e more p u := by
    intro u
    have hu : runit m e p = max (e + bits m - p) (-16384) := rfl
    rcases Nat.eq_zero_or_pos K with hK0 | hK0
    · subst hK0
      have hle : runit m e p ≤ e := by rw [hu]; omega
      have hmf : more = false := by
        cases hmm : more with
        | false => rfl
        | true => have := hm hmm; omega
      have hQ : cutQ m 0 more u = m := by unfold cutQ; rw [hmf]; simp
      have hlost : rlost m e (runit m e p) = false := by unfold rlost; rw [decide_eq_true hle]; rfl
      have hrl : rlow m e (runit m e p) = m * 2 ^ (e - runit m e p).toNat := by unfold rlow; rw [if_pos hle]
      have hrq : rq m e more p u = m * 2 ^ (e - runit m e p).toNat := by unfold rq; rw [hlost, hmf, hrl]; simp
      unfold rcut
      rw [hrq, hQ]
      have hcan : canon false (m * 2 ^ (e - runit m e p).toNat) (runit m e p) = canon false m (e + (0 : Nat)) := by
        rw [canon_shift]; congr 1; omega
      rw [hcan]
      by_cases hm0 : m = 0
      · subst hm0
        rw [Nat.zero_mul, bits_zero, if_neg (by omega), if_neg (by have := h0 rfl; rw [hu, bits_zero]; omega)]
      · have hbp := bits_pos hm0
        rw [bits_mul_pow hm0]
        by_cases hov : 16384 < (bits m : Int) + e
        · rw [if_pos (show 0 < bits m ∧ 16384 < (bits m : Int) + e + (0 : Nat) from ⟨hbp, by omega⟩), if_pos (show ((bits m + (e - runit m e p).toNat : Nat) : Int) + runit m e p > 16384 by omega)]
        · rw [if_neg (show ¬ (0 < bits m ∧ 16384 < (bits m : Int) + e + (0 : Nat)) from fun h => hov (by have := h.2; omega)), if_neg (show ¬ ((bits m + (e - runit m e p).toNat : Nat) : Int) + runit m e p > 16384 by omega)]
    · have hKu : runit m e p = e + K := by rw [hu]; omega
      have hnle : ¬ runit m e p ≤ e := by omega
      have hKn : (runit m e p - e).toNat = K := by omega
      have hrl : rlow m e (runit m e p) = m / 2 ^ K := by unfold rlow; rw [if_neg hnle, hKn]
      have hdm := Nat.div_add_mod m (2 ^ K)
      have hlost : rlost m e (runit m e p) = !decide (m / 2 ^ K * 2 ^ K = m) := by
        unfold rlost
        rw [decide_eq_false hnle, hKn]
        have : (m % 2 ^ K = 0) ↔ (m / 2 ^ K * 2 ^ K = m) := by rw [Nat.mul_comm]; omega
        simp [this]
      have hrq : rq m e more p u = cutQ m K more u := by
        unfold rq cutQ
        rw [hlost, hrl, decide_eq_true hK0, Bool.true_and, Bool.and_comm]
      unfold rcut
      rw [hrq, hKu]
      by_cases hq0 : bits (cutQ m K more u) = 0
      · have hsmall : ¬ (bits (cutQ m K more u) : Int) + (e + K) > 16384 := by
          rw [hq0]
          have hq1 : cutQ m K more u = 0 := by
            rcases Nat.eq_zero_or_pos (cutQ m K more u) with h | h
            · exact h
            · have := bits_pos (Nat.ne_of_gt h); omega
          have hq2 : m / 2 ^ K = 0 := by
            unfold cutQ at hq1; split at hq1 <;> omega
          have hlt : m < 2 ^ K := by
            rcases Nat.lt_or_ge m (2 ^ K) with h | h
            · exact h
            · have := Nat.div_pos h (two_pow_pos K); omega
          have hbK := bits_le.2 hlt
          omega
        rw [if_neg (fun h => by have := h.1; omega), if_neg hsmall]
      · by_cases hov : 16384 < (bits (cutQ m K more u) : Int) + e + K
        · rw [if_pos ⟨by omega, hov⟩, if_pos (show (bits (cutQ m K more u) : Int) + (e + K) > 16384 by omega)]
        · rw [if_neg (fun h => hov h.2), if_neg (show ¬ (bits (cutQ m K more u) : Int) + (e + K) > 16384 by omega)]
  have e0 : ∀ R, sgnR false R = R := fun _ => rfl
  have e1 : ∀ R, sgnR true R = R.map Dy.opp := fun _ => rfl
  unfold rndS
  rw [← hb1, ← key (neg != up)]
  unfold cutX
  generalize cutQ m K more (neg != up) = Q
  by_cases hc : 0 < bits Q ∧ 16384 < (bits Q : Int) + e + K
  rotate_left
  · rw [if_neg hc, if_neg hc]
    cases neg with
    | true => rw [e1, Option.map_some, canon_opp]; rfl
    | false => rw [e0]; rfl
  rw [if_pos hc, if_pos hc]
  by_cases ho : (neg != up) = true
  · rw [if_pos ho, if_pos ho]
    cases neg with
    | true => rw [e1]; rfl
    | false => rw [e0]; rfl
  rw [if_neg ho, if_neg ho]
  cases neg with
  | true => rw [e1, Option.map_some, canon_opp]; rfl
  | false => rw [e0]; rfl
set_option maxHeartbeats 2000000 in
theorem r8square_any (m : List (List RI)) (a : Option Addr) (c : Nat) (w : World) (hm : RowM w a m) (hl : m.length ≤ 1100000) :
    Calls Tryz.prog 85 #[.slice a m.length c] w fun e w' => e = .returned (.bool (sqM m)) ∧ Kp w w' := by
  cases hv : vlM m with
  | false =>
    have H := Lib.hid (r7valid_any a m c w hm hl)
    rw [hv] at H
    have HE := Lib.hid (show sqM m = false by unfold sqM; rw [hv]; rfl)
    clear hm hv
    go_enter Tryz.func85, Tryz.ntmps85
    go_wp2_with fail
    go_fit H.out
    rintro e w1 ⟨rfl, k1⟩
    go_wp2_with fail
    go_ret
    exact ⟨ret_bool HE.out.symm, k1⟩
  | true =>
  obtain ⟨r0, hr0, hc0⟩ := vlM_row0 hv
  have H := Lib.hid (r7valid_any a m c w hm hl)
  rw [hv] at H
  have hml := (vlM_iff.1 hv).1
  obtain ⟨ba, oa, ra, rc, rfl, hrow, _⟩ := hm 0 r0 hr0
  rw [Nat.add_zero] at hrow
  have hi1 : (0 : Int) < (m.length : Int) := by omega
  have HE := Lib.hid (show sqM m = decide (m.length = r0.length) by unfold sqM; rw [hv, hc0]; rfl)
  have HW := Lib.hid hrow
  clear hm hv hr0 hc0 hml hrow
  go_enter Tryz.func85, Tryz.ntmps85
  go_wp2_with fail
  go_fit H.out
  rintro e w1 ⟨rfl, k1⟩
  have hrow := k1.cell HW.out
  go_wp2_with fail
  go_ret
  refine ⟨ret_bool ?_, k1⟩
  rw [HE.out, Bool.eq_iff_iff, beq_iff_eq, decide_eq_true_eq]
  omega
set_option maxHeartbeats 2000000 in
theorem r8case_any (m : List (List RI)) (a : Option Addr) (c : Nat) (p : Int) (w : World) (hm : RowM w a m) (hl : m.length ≤ 1100000) :
    Calls Tryz.prog 38 #[.slice a m.length c, .int .i64 p] w fun e w' => e = .returned (.bool (sqM m && preB p)) ∧ Kp w w' := by
  have H := Lib.hid (r8square_any m a c w hm hl)
  clear hm
  cases hv : sqM m with
  | false =>
    rw [hv] at H
    clear hv
    go_enter Tryz.func38, Tryz.ntmps38
    go_wp2_with fail
    go_fit H.out
    rintro e w1 ⟨rfl, k1⟩
    go_wp2_with fail
    go_ret
    exact ⟨ret_bool rfl, k1⟩
  | true =>
  rw [hv] at H
  clear hv
  go_enter Tryz.func38, Tryz.ntmps38
  go_wp2_with fail
  go_fit H.out
  rintro e w1 ⟨rfl, k1⟩
  go_wp2_with fail
  go_fit (r3prec_any p _)
  rintro e w2 ⟨rfl, rfl⟩
  go_wp2_with fail
  go_ret
  exact ⟨ret_bool rfl, k1⟩
theorem r5prec_any (p : Int) (w : World) :
    Calls Tryz.prog 131 #[.int .i64 p] w fun e w' => e = .returned (.bool (preB p)) ∧ w = w' := by
  by_cases h1 : 8 ≤ p
  rotate_left
  · have H := Lib.hid (show preB p = false from decide_eq_false (by omega))
    go_enter Tryz.func131, Tryz.ntmps131
    go_wp2_with fail
    go_ret
    exact ⟨ret_bool (by first | exact H.out.symm | (rw [H.out]; simp; omega)), rfl⟩
  by_cases h2 : p ≤ 512
  · have H := Lib.hid (show preB p = true from decide_eq_true ⟨h1, h2⟩)
    go_enter Tryz.func131, Tryz.ntmps131
    go_wp2_with fail
    go_ret
    exact ⟨ret_bool (by first | exact H.out.symm | (rw [H.out]; simp; omega)), rfl⟩
  have H := Lib.hid (show preB p = false from decide_eq_false (by omega))
  go_enter Tryz.func131, Tryz.ntmps131
  go_wp2_with fail
  go_ret
  exact ⟨ret_bool (by first | exact H.out.symm | (rw [H.out]; simp; omega)), rfl⟩
set_option maxHeartbeats 4000000 in
theorem r5Whole_any (w : World) :
    Calls Tryz.prog 107 #[] w fun e w' => e = .returned (.agg #[.bool false, .slice none 0 0, .int .i64 0, .bool false, .slice none 0 0, .int .i64 0, .bool true]) ∧ Kp w w' := by
  go_enter Tryz.func107, Tryz.ntmps107
  go_wp2_with fail
  refine bodyPost_ret (v := .agg #[.bool false, .slice none 0 0, .int .i64 0, .bool false, .slice none 0 0, .int .i64 0, .bool true]) (by simp [results, Tryz.results107, go_sem]) rfl ?_
  exact ⟨rfl, (Kp.refl w).alloc _⟩
set_option maxRecDepth 100000 in
set_option maxHeartbeats 4000000 in
theorem r5made_any (x y : RD) (e f : Int) (w : World) :
    Calls Tryz.prog 133 #[.agg #[.bool x.neg, .slice x.a x.xs.length x.c, .int .i64 x.e], .int .i64 e, .agg #[.bool y.neg, .slice y.a y.xs.length y.c, .int .i64 y.e], .int .i64 f] w fun r w' => r = .returned (.agg #[.bool (madeR x y e f).lo.neg, .slice (madeR x y e f).lo.a (madeR x y e f).lo.xs.length (madeR x y e f).lo.c, .int .i64 (madeR x y e f).lo.e, .bool (madeR x y e f).hi.neg, .slice (madeR x y e f).hi.a (madeR x y e f).hi.xs.length (madeR x y e f).hi.c, .int .i64 (madeR x y e f).hi.e, .bool (madeR x y e f).all]) ∧ Kp w w' := by
  by_cases h : e ≠ 0 ∨ f ≠ 0
  rotate_left
  · have HM := Lib.hid (show madeR x y e f = ⟨x, y, false⟩ by unfold madeR; rw [if_neg h])
    have he : e = 0 := Classical.byContradiction fun k => h (.inl k)
    have hf : f = 0 := Classical.byContradiction fun k => h (.inr k)
    clear h
    subst he
    subst hf
    go_enter Tryz.func133, Tryz.ntmps133
    go_wp2_with fail
    refine bodyPost_ret (v := .agg #[.bool (RI.mk x y false).lo.neg, .slice (RI.mk x y false).lo.a (RI.mk x y false).lo.xs.length (RI.mk x y false).lo.c, .int .i64 (RI.mk x y false).lo.e, .bool (RI.mk x y false).hi.neg, .slice (RI.mk x y false).hi.a (RI.mk x y false).hi.xs.length (RI.mk x y false).hi.c, .int .i64 (RI.mk x y false).hi.e, .bool (RI.mk x y false).all]) (by simp [results, Tryz.results133, go_sem]) rfl ?_
    rw [HM.out]
    exact ⟨rfl, (((Kp.refl w).alloc _).alloc _).alloc _⟩
  have HM := Lib.hid (show madeR x y e f = wholeR by unfold madeR; rw [if_pos h])
  by_cases he : e = 0
  rotate_left
  · have g1 : (e != 0) = true := by rw [bne, beq_eq_false_iff_ne.2 he]; rfl
    have g3 : (e == 0) = false := beq_eq_false_iff_ne.2 he
    clear h he
    go_enter Tryz.func133, Tryz.ntmps133
    go_wp2_with fail
    generalize hW : (((w.alloc _).alloc _).alloc _) = W at *
    have hk : Kp w W := hW ▸ (((Kp.refl w).alloc _).alloc _).alloc _
    have hV : Var7 W (w.heap.size + 1 + 1) := by rw [← hW]; exact Var7.new2 _ _ _ _
    clear hW
    go_fit (r5Whole_any _)
    rintro r w1 ⟨rfl, hk1⟩
    have hk2 := hk.trans hk1
    obtain ⟨⟨q0, q1, q2, q3, q4, q5, q6⟩, f0, f1, f2, f3, f4, f5, f6⟩ := hV.kp hk1
    go_wp2_with fail
    generalize hW9 : ((((((w1.setCell _ _).setCell _ _).setCell _ _).setCell _ _).setCell _ _).setCell _ _).setCell _ _ = W9
    obtain ⟨⟨s0, s1, s2, s3, s4, s5, s6⟩, hU⟩ := stored7 (show Box7 w1 _ _ _ _ _ _ _ _ from ⟨q0, q1, q2, q3, q4, q5, q6⟩) (fun _ h => by cases h) (fun _ h => by cases h) (fun _ h => by cases h) (fun _ h => by cases h) (fun _ h => by cases h) (fun _ h => by cases h) (fun _ h => by cases h) _ _ _ _ _ _ _ hW9
    clear hW9 q0 q1 q2 q3 q4 q5 q6 f0 f1 f2 f3 f4 f5 f6
    refine bodyPost_ret (v := .agg #[.bool false, .slice none 0 0, .int .i64 0, .bool false, .slice none 0 0, .int .i64 0, .bool true]) (by simp [results, Tryz.results133, go_sem, s0, s1, s2, s3, s4, s5, s6]) rfl ?_
    rw [HM.out]
    exact ⟨rfl, hU.2.2.1 _ hk2 (by omega)⟩
  have hf : f ≠ 0 := h.resolve_left (fun k => k he)
  have g2 : (f != 0) = true := by rw [bne, beq_eq_false_iff_ne.2 hf]; rfl
  have g3 : (f == 0) = false := beq_eq_false_iff_ne.2 hf
  clear h hf
  subst he
  go_enter Tryz.func133, Tryz.ntmps133
  go_wp2_with fail
  generalize hW : (((w.alloc _).alloc _).alloc _) = W at *
  have hk : Kp w W := hW ▸ (((Kp.refl w).alloc _).alloc _).alloc _
  have hV : Var7 W (w.heap.size + 1 + 1) := by rw [← hW]; exact Var7.new2 _ _ _ _
  clear hW
  go_fit (r5Whole_any _)
  rintro r w1 ⟨rfl, hk1⟩
  have hk2 := hk.trans hk1
  obtain ⟨⟨q0, q1, q2, q3, q4, q5, q6⟩, f0, f1, f2, f3, f4, f5, f6⟩ := hV.kp hk1
  go_wp2_with fail
  generalize hW9 : ((((((w1.setCell _ _).setCell _ _).setCell _ _).setCell _ _).setCell _ _).setCell _ _).setCell _ _ = W9
  obtain ⟨⟨s0, s1, s2, s3, s4, s5, s6⟩, hU⟩ := stored7 (show Box7 w1 _ _ _ _ _ _ _ _ from ⟨q0, q1, q2, q3, q4, q5, q6⟩) (fun _ h => by cases h) (fun _ h => by cases h) (fun _ h => by cases h) (fun _ h => by cases h) (fun _ h => by cases h) (fun _ h => by cases h) (fun _ h => by cases h) _ _ _ _ _ _ _ hW9
  clear hW9 q0 q1 q2 q3 q4 q5 q6 f0 f1 f2 f3 f4 f5 f6
  refine bodyPost_ret (v := .agg #[.bool false, .slice none 0 0, .int .i64 0, .bool false, .slice none 0 0, .int .i64 0, .bool true]) (by simp [results, Tryz.results133, go_sem, s0, s1, s2, s3, s4, s5, s6]) rfl ?_
  rw [HM.out]
  exact ⟨rfl, hU.2.2.1 _ hk2 (by omega)⟩
set_option maxHeartbeats 2000000 in
theorem r5known_any (x : RI) (w : World) (hx : x.rd w) :
    Calls Tryz.prog 132 #[.agg #[.bool x.lo.neg, .slice x.lo.a x.lo.xs.length x.lo.c, .int .i64 x.lo.e, .bool x.hi.neg, .slice x.hi.a x.hi.xs.length x.hi.c, .int .i64 x.hi.e, .bool x.all]] w fun e w' => e = .returned (.bool (goodI x)) ∧ Kp w w' := by
  have H := Lib.hid (show goodI x = (!x.all && x.vl) from rfl)
  go_enter Tryz.func132, Tryz.ntmps132
  go_wp2_with fail
  generalize hW : (w.alloc _) = W at *
  have hk : Kp w W := hW ▸ (Kp.refl w).alloc _
  have hS : W.cell? ⟨w.heap.size, 0, none⟩ = some (.bool x.lo.neg) ∧ W.cell? ⟨w.heap.size, 1, none⟩ = some (.slice x.lo.a x.lo.xs.length x.lo.c) ∧ W.cell? ⟨w.heap.size, 2, none⟩ = some (.int .i64 x.lo.e) ∧ W.cell? ⟨w.heap.size, 3, none⟩ = some (.bool x.hi.neg) ∧ W.cell? ⟨w.heap.size, 4, none⟩ = some (.slice x.hi.a x.hi.xs.length x.hi.c) ∧ W.cell? ⟨w.heap.size, 5, none⟩ = some (.int .i64 x.hi.e) ∧ W.cell? ⟨w.heap.size, 6, none⟩ = some (.bool x.all) := by rw [← hW]; simp
  clear hW
  go_fit (r5Valid_raw x _ (hx.kp hk))
  rintro e w1 ⟨rfl, hk1⟩
  obtain ⟨s0, s1, s2, s3, s4, s5, s6⟩ := keep7 hk1 hS
  cases hv : x.vl with
  | true =>
    go_wp2_with fail
    go_ret
    exact ⟨ret_bool (by rw [H.out, hv]; simp), hk.trans hk1⟩
  | false =>
  go_wp2_with fail
  go_ret
  exact ⟨ret_bool (by rw [H.out, hv]; simp), hk.trans hk1⟩
end Go.Proofs.YtpocjagbhiahdaaGreatDoor
