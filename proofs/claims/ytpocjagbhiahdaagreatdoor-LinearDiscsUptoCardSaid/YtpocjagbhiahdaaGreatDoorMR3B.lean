/-
  Walks: the third reference's Cut.
-/
import Derived.Test.YtpocjagbhiahdaaGreatDoorMR3A
namespace Go.Proofs.YtpocjagbhiahdaaGreatDoor
open Go.RowKit

theorem r1bits_lim (a : Option Addr) (n : Nat) (c : Nat) (w : World) (h : Rd w a (limbs n)) (hl : (limbs n).length ≤ 1100000) :
    Calls Tryz.prog 100 #[.slice a (limbs n).length c] w fun e w' => e = .returned (.int .i64 (bits n)) ∧ w = w' := by
  have := r1bits_any a (limbs n) c w h hl
  rwa [val_limbs] at this
theorem r1shr_lim (a : Option Addr) (m : Nat) (c : Nat) (j : Int) (n : Nat) (w : World) (h1 : Rd w a (limbs m)) (hxl : (limbs m).length ≤ 1000000) (hn : n ≤ 40000000) (hj : j = n) :
    Calls Tryz.prog 145 #[.slice a (limbs m).length c, .int .i64 j] w (NatOut w (m / 2 ^ n)) := by
  have := r1shr_int a (limbs m) c j n w h1 hxl hn hj
  rwa [val_limbs] at this
theorem r1shl_lim (a : Option Addr) (m : Nat) (c : Nat) (j : Int) (n : Nat) (w : World) (h1 : Rd w a (limbs m)) (hxc : (limbs m).length ≤ c) (hc : c ≤ maxLen) (hxl : (limbs m).length ≤ 100000) (hn : n ≤ 20000000) (hj : j = n) :
    Calls Tryz.prog 102 #[.slice a (limbs m).length c, .int .i64 j] w (NatOut w (m * 2 ^ n)) := by
  have := r1shl_int a (limbs m) c j n w h1 hxc hc hxl hn hj
  rwa [val_limbs] at this
theorem r1cmp_lim (a b : Option Addr) (m n : Nat) (c d : Nat) (w : World) (h1 : Rd w a (limbs m)) (h2 : Rd w b (limbs n)) (hxl : (limbs m).length ≤ 1100000) (hyl : (limbs n).length ≤ 1100000) :
    Calls Tryz.prog 146 #[.slice a (limbs m).length c, .slice b (limbs n).length d] w fun e w' => e = .returned (.int .i64 (cmpN m n)) ∧ w = w' := by
  have := r1cmp_any a b (limbs m) (limbs n) c d w h1 h2 hxl hyl
  rwa [val_limbs, val_limbs] at this
theorem r1inc_lim (a : Option Addr) (m : Nat) (c : Nat) (W : World) (h1 : Rd W a (limbs m)) (hxl : (limbs m).length ≤ 100000) :
    Calls Tryz.prog 147 #[.slice a (limbs m).length c, .slice (some ⟨W.heap.size, 0, none⟩) 1 1] (W.alloc (.cells #[.int .u32 1] 103)) (NatOut (W.alloc (.cells #[.int .u32 1] 103)) (m + 1)) := by
  have := r1add_any a (some ⟨W.heap.size, 0, none⟩) (limbs m) [1] c 1 _ (h1.kp ((Kp.refl W).alloc _)) (rd_new1 W 1 (by decide) 103) (by omega) (by simp)
  rw [val_limbs, show val [1] = 1 by simp [val]] at this
  exact this
theorem cmpN_ne {m n : Nat} : (cmpN m n != 0) = !decide (m = n) := by
  rcases Nat.lt_trichotomy m n with h | h | h
  · rw [cmpN_lt h, decide_eq_false (by omega)]; rfl
  · rw [cmpN_eq h, decide_eq_true h]; rfl
  rw [cmpN_gt h, decide_eq_false (by omega)]; rfl
set_option maxRecDepth 100000 in
set_option maxHeartbeats 8000000 in
theorem r3cut_any (neg more : Bool) (a : Option Addr) (xs : List Nat) (c : Nat) (e : Int) (p : Nat) (up : Bool) (w : World) (hx : Rd w a xs) (hxc : xs.length ≤ c) (hc : c ≤ maxLen) (hxl : xs.length ≤ 3000) (he0 : -100000 ≤ e) (he1 : e ≤ 100000) (hp0 : 8 ≤ p) (hp1 : p ≤ 512)
    (hm : more = true → p < bits (val xs)) (h0 : val xs = 0 → e ≤ 16384) :
    Calls Tryz.prog 103 #[.bool neg, .slice a xs.length c, .int .i64 e, .bool more, .int .i64 (p : Nat), .bool up] w (NumE w (rndE (rndS neg (val xs) e more p up)).1 (rndE (rndS neg (val xs) e more p up)).2) := by
  obtain ⟨K, hK⟩ : ∃ K : Nat, (K : Int) = max (max ((bits (val xs) : Int) - p) (-16384 - e)) 0 := ⟨(max (max ((bits (val xs) : Int) - p) (-16384 - e)) 0).toNat, by omega⟩
  have HD := Lib.hid (cutX_rnd (neg := neg) (up := up) hp0 hp1 hK hm h0 he1)
  have HOK := Lib.hid (show (cutX neg (val xs) e more p up K).1.ok by rw [HD.out]; exact rndS_ok hp0 hp1)
  rw [← HD.out]
  have hbx : bits (val xs) ≤ 96000 := Nat.le_trans (bits_val_le hx.lt32) (by omega)
  have hK2 : K ≤ 200000 := by omega
  have hll := limbs_len_le hx.lt32
  have HK := Lib.hid hK
  have hB := Box3.new w (.bool false) (.slice none 0 0) (.int .i64 0) 42
  have HT := Lib.hid (r1trim_any a xs c _ (hx.kp ((Kp.refl w).alloc (.cells #[.bool false, .slice none 0 0, .int .i64 0] 42))) hxc hc (by omega))
  have HB := Lib.hid hB
  clear hB hx hm h0 HD hK
  generalize val xs = m at *
  go_enter Tryz.func103, Tryz.ntmps103
  go_wp2_with fail
  with_reducible refine HT.out.mono ?_
  rintro e1 w1 ⟨a1, c1, rfl, l1, m1, r1, k1⟩
  have HB1 := Lib.hid (HB.out.kp k1)
  have hk1 := ((Kp.refl w).alloc _).trans k1
  clear HT HB k1
  go_wp2_with fail
  refine (r1bits_lim a1 m c1 _ r1 (by omega)).mono ?_
  rintro e2 w2 ⟨rfl, rfl⟩
  go_upto_region 3 with fail
  go_cut [15] from 16 (fun s wx => s = .int .i64 (K : Nat) ∧ w1 = wx)
  case first =>
    go_wp2_with fail
    all_goals
      go_meet
      case rel => exact ⟨by congr 1; have := HK.out; omega, rfl⟩
  case rest =>
  obtain ⟨rfl, rfl⟩ := hcut
  go_wp2_with fail
  refine (r1shr_lim a1 m c1 _ K _ r1 (by omega) (by omega) rfl).mono ?_
  rintro e3 w3 ⟨a3, c3, rfl, l3, m3, r3, k3⟩
  have hq3 : (limbs (m / 2 ^ K)).length ≤ 3000 := Nat.le_trans (limbs_length_mono (Nat.div_le_self _ _)) (by omega)
  have hq4 : m / 2 ^ K * 2 ^ K ≤ m := Nat.div_mul_le_self _ _
  have HB3 := Lib.hid (HB1.out.kp k3)
  have hk3 := hk1.trans k3
  have r13 := r1.kp k3
  clear r1 HB1 hk1 k3 HK
  go_upto_region 5 with fail
  go_cut [40] from 18 (fun s wx => s = .bool (decide (0 < K) && !decide (m / 2 ^ K * 2 ^ K = m)) ∧ Kp w3 wx)
  case first =>
    by_cases hK0 : 0 < K
    rotate_left
    · have hKi : ¬ (0 : Int) < (K : Int) := by omega
      have H1 := Lib.hid (show decide (0 < K) = false from decide_eq_false hK0)
      clear hK0
      go_wp2_with fail
      go_meet
      case rel => exact ⟨by rw [H1.out]; rfl, Kp.refl _⟩
    have hKi : (0 : Int) < (K : Int) := by omega
    have H1 := Lib.hid (show decide (0 < K) = true from decide_eq_true hK0)
    clear hK0
    go_wp2_with fail
    refine (r1shl_lim a3 (m / 2 ^ K) c3 _ K _ r3 l3 m3 (by omega) (by omega) rfl).mono ?_
    rintro e4 w4 ⟨a4, c4, rfl, l4, m4, r4, k4⟩
    have hl4 := limbs_length_mono hq4
    have Hr4 := Lib.hid r4
    have Hr1 := Lib.hid (r13.kp k4)
    have HN := Lib.hid (@cmpN_ne (m / 2 ^ K * 2 ^ K) m)
    generalize m / 2 ^ K * 2 ^ K = Q at *
    clear r4 l4 m4 hq4
    go_wp2_with fail
    refine (r1cmp_lim a4 a1 Q m c4 c1 _ Hr4.out Hr1.out (by omega) (by omega)).mono ?_
    rintro e5 w5 ⟨rfl, rfl⟩
    go_wp2_with fail
    go_meet
    case rel => exact ⟨by rw [HN.out, H1.out]; rfl, k4⟩
  case rest =>
  obtain ⟨rfl, k4⟩ := hcut
  obtain ⟨W4, hW4⟩ : ∃ W4 : World, W4 = wc := ⟨_, rfl⟩
  subst hW4
  have r34 := r3.kp k4
  have HB4 := Lib.hid (HB3.out.kp k4)
  have hk4 := hk3.trans k4
  clear r3 r13 HB3 hk3 k4
  go_upto_if 40 with fail
  go_cut [3] from 18 (fun s wx => s = .bool (more || (decide (0 < K) && !decide (m / 2 ^ K * 2 ^ K = m))) ∧ W4 = wx)
  case first =>
    cases hBb : (decide (0 < K) && !decide (m / 2 ^ K * 2 ^ K = m)) with
    | false =>
      have HBb := Lib.hid hBb
      clear hBb
      go_wp2_with fail
      go_meet
      case rel => exact ⟨by rw [HBb.out]; cases more <;> rfl, rfl⟩
    | true =>
    have HBb := Lib.hid hBb
    clear hBb
    go_wp2_with fail
    go_meet
    case rel => exact ⟨by rw [HBb.out]; cases more <;> rfl, rfl⟩
  case rest =>
  obtain ⟨rfl, rfl⟩ := hcut
  go_upto_region 7 with fail
  go_cut [17] from 18 (fun s wx => s = .bool (neg != up) ∧ W4 = wx)
  case first =>
    cases neg <;> cases up <;> (go_wp2_with fail; go_meet; case rel => exact ⟨rfl, rfl⟩)
  case rest =>
  obtain ⟨rfl, rfl⟩ := hcut
  have HQ := Lib.hid (show cutQ m K more (neg != up) = if ((more || (decide (0 < K) && !decide (m / 2 ^ K * 2 ^ K = m))) && (neg != up)) = true then m / 2 ^ K + 1 else m / 2 ^ K from rfl)
  have HX := Lib.hid (show cutX neg m e more p up K = if 0 < bits (cutQ m K more (neg != up)) ∧ 16384 < (bits (cutQ m K more (neg != up)) : Int) + e + K then (if (neg != up) = true then (.zero, 9) else (canon neg (2 ^ p - 1) (16384 - p), 0)) else (canon neg (cutQ m K more (neg != up)) (e + K), 0) from rfl)
  have hQb : bits (cutQ m K more (neg != up)) ≤ 96032 := by
    have h1 : cutQ m K more (neg != up) ≤ m + 1 := by
      have := Nat.div_le_self m (2 ^ K)
      unfold cutQ; split <;> omega
    have h2 := bits_mono h1
    have h3 := bits_add_le hbx (show bits 1 ≤ 96000 by decide)
    omega
  have hQl : (limbs (cutQ m K more (neg != up))).length ≤ 3001 := limbs_of_bits (by omega)
  generalize cutX neg m e more p up K = D at *
  generalize cutQ m K more (neg != up) = Q at *
  generalize (more || (decide (0 < K) && !decide (m / 2 ^ K * 2 ^ K = m))) = mr at *
  generalize m / 2 ^ K = q at *
  generalize (neg != up) = out at *
  clear hq4
  go_upto_region 8 with fail
  go_cut [47] from 18 (fun s wx => s = .bool (mr && out) ∧ W4 = wx)
  case first =>
    cases mr with
    | false =>
      go_wp2_with fail
      go_meet
      case rel => exact ⟨rfl, rfl⟩
    | true =>
    cases out with
    | false =>
      go_wp2_with fail
      go_meet
      case rel => exact ⟨rfl, rfl⟩
    | true =>
    go_wp2_with fail
    go_meet
    case rel => exact ⟨rfl, rfl⟩
  case rest =>
  obtain ⟨rfl, rfl⟩ := hcut
  go_upto_if 47 with fail
  go_cut [16] from 18 (fun s wx => ∃ (a : Option Addr) (c : Nat), s = .slice a (limbs Q).length c ∧ (limbs Q).length ≤ c ∧ c ≤ maxLen ∧ Rd wx a (limbs Q) ∧ Kp W4 wx)
  case first =>
    by_cases hmo : (mr && out) = true
    · obtain ⟨rfl, rfl⟩ : mr = true ∧ out = true := by simpa using hmo
      have HQ2 := Lib.hid (show Q = q + 1 from HQ.out)
      clear hmo HQ
      go_wp2_with fail
      with_reducible refine (r1inc_lim a3 q c3 _ r34 (by omega)).mono ?_
      rintro e6 w6 ⟨a6, c6, rfl, l6, m6, r6, k6⟩
      go_wp2_with fail
      go_meet
      case rel => exact ⟨a6, c6, by rw [HQ2.out], by rw [HQ2.out]; exact l6, m6, by rw [HQ2.out]; exact r6, ((Kp.refl _).alloc _).trans k6⟩
    have HQ2 := Lib.hid (show Q = q by rw [HQ.out, if_neg hmo])
    have HMO := Lib.hid hmo
    clear hmo HQ
    cases mr with
    | true =>
      cases out with
      | true => exact absurd rfl HMO.out
      | false =>
      clear HMO
      go_wp2_with fail
      go_meet
      case rel => exact ⟨a3, c3, by rw [HQ2.out], by rw [HQ2.out]; exact l3, m3, by rw [HQ2.out]; exact r34, Kp.refl _⟩
    | false =>
    clear HMO
    cases out with
    | false =>
      go_wp2_with fail
      go_meet
      case rel => exact ⟨a3, c3, by rw [HQ2.out], by rw [HQ2.out]; exact l3, m3, by rw [HQ2.out]; exact r34, Kp.refl _⟩
    | true =>
    go_wp2_with fail
    go_meet
    case rel => exact ⟨a3, c3, by rw [HQ2.out], by rw [HQ2.out]; exact l3, m3, by rw [HQ2.out]; exact r34, Kp.refl _⟩
  case rest =>
  obtain ⟨a5, c5, rfl, l5, m5, r5, k5⟩ := hcut
  obtain ⟨W5, hW5⟩ : ∃ W5 : World, W5 = wc := ⟨_, rfl⟩
  subst hW5
  have HB5 := HB4.out.kp k5
  have hk5 := hk4.trans k5
  clear r34 HB4 hk4 k5 HQ l3 m3 hq3
  have HO := Lib.hid (r2Of_any neg a5 (limbs Q) c5 (e + K) W5 r5 l5 m5 (by omega) (by omega) (by omega))
  by_cases hb0 : bits Q = 0
  · have hbi : ((bits Q : Nat) : Int) = 0 := by omega
    have HD2 := Lib.hid (show D = (canon neg Q (e + K), 0) by rw [HX.out, if_neg (fun h => by have := h.1; omega)])
    have hb3 : ¬ (0 : Int) < ((bits Q : Nat) : Int) := by omega
    clear hb0 HX hbi
    go_wp2_with fail
    with_reducible refine (r1bits_lim a5 Q c5 _ r5 (by omega)).mono ?_
    rintro e7 w7 ⟨rfl, rfl⟩
    go_wp2_with fail
    have hO := HO.out
    rw [val_limbs] at hO
    with_reducible refine hO.mono ?_
    clear hO HO
    rintro e8 w8 ⟨a8, c8, rfl, r8, l8, m8, k8⟩
    rw [HD2.out] at HOK
    generalize canon neg Q (e + K) = F at *
    obtain ⟨q0, q1, q2, f0, f1, f2⟩ := HB5.kp k8
    have hst := stored q0 q1 q2 (fun _ h => by cases h) (fun _ h => by cases h) (fun _ h => by cases h) (.bool F.neg) (.slice a8 (limbs F.m).length c8) (.int .i64 F.e)
    go_wp2_with fail
    generalize (((w8.setCell _ _).setCell _ _).setCell _ _) = W9 at hst ⊢
    obtain ⟨s0, s1, s2, _, s4, s5, _, _⟩ := hst
    refine bodyPost_ret (v := .tuple #[.agg #[.bool F.neg, .slice a8 (limbs F.m).length c8, .int .i64 F.e], .int .i64 0]) (by simp [results, Tryz.results103, go_sem, s0, s1, s2]) rfl ?_
    rw [HD2.out]
    exact DyE.numc ⟨a8, c8, rfl, s4 _ _ r8, l8, m8, s5 _ (hk5.trans k8) (by omega)⟩ HOK.out
  have hb3 : (0 : Int) < ((bits Q : Nat) : Int) := by omega
  by_cases hov : (16384 : Int) < (bits Q : Int) + e + K
  rotate_left
  · have HD2 := Lib.hid (show D = (canon neg Q (e + K), 0) by rw [HX.out, if_neg (fun h => hov h.2)])
    clear HX hb0
    go_wp2_with fail
    with_reducible refine (r1bits_lim a5 Q c5 _ r5 (by omega)).mono ?_
    rintro e7 w7 ⟨rfl, rfl⟩
    go_wp2_with fail
    with_reducible refine (r1bits_lim a5 Q c5 _ r5 (by omega)).mono ?_
    rintro e7 w7 ⟨rfl, rfl⟩
    go_wp2_with fail
    have hO := HO.out
    rw [val_limbs] at hO
    with_reducible refine hO.mono ?_
    clear hO HO
    rintro e8 w8 ⟨a8, c8, rfl, r8, l8, m8, k8⟩
    rw [HD2.out] at HOK
    generalize canon neg Q (e + K) = F at *
    obtain ⟨q0, q1, q2, f0, f1, f2⟩ := HB5.kp k8
    have hst := stored q0 q1 q2 (fun _ h => by cases h) (fun _ h => by cases h) (fun _ h => by cases h) (.bool F.neg) (.slice a8 (limbs F.m).length c8) (.int .i64 F.e)
    go_wp2_with fail
    generalize (((w8.setCell _ _).setCell _ _).setCell _ _) = W9 at hst ⊢
    obtain ⟨s0, s1, s2, _, s4, s5, _, _⟩ := hst
    refine bodyPost_ret (v := .tuple #[.agg #[.bool F.neg, .slice a8 (limbs F.m).length c8, .int .i64 F.e], .int .i64 0]) (by simp [results, Tryz.results103, go_sem, s0, s1, s2]) rfl ?_
    rw [HD2.out]
    exact DyE.numc ⟨a8, c8, rfl, s4 _ _ r8, l8, m8, s5 _ (hk5.trans k8) (by omega)⟩ HOK.out
  have HD1 := Lib.hid (show D = if out = true then (.zero, 9) else (canon neg (2 ^ p - 1) (16384 - p), 0) by rw [HX.out, if_pos ⟨by omega, hov⟩])
  clear HX hb0 HO
  go_wp2_with fail
  with_reducible refine (r1bits_lim a5 Q c5 _ r5 (by omega)).mono ?_
  rintro e7 w7 ⟨rfl, rfl⟩
  go_wp2_with fail
  with_reducible refine (r1bits_lim a5 Q c5 _ r5 (by omega)).mono ?_
  rintro e7 w7 ⟨rfl, rfl⟩
  cases out with
  | true =>
    have HD2 := Lib.hid (show D = (.zero, 9) from HD1.out)
    clear HD1
    obtain ⟨q0, q1, q2, f0, f1, f2⟩ := HB5
    have hst := stored q0 q1 q2 (fun _ h => by cases h) (fun _ h => by cases h) (fun _ h => by cases h) (.bool false) (.slice none 0 0) (.int .i64 0)
    go_wp2_with fail
    generalize (((W5.setCell _ _).setCell _ _).setCell _ _) = W9 at hst ⊢
    obtain ⟨s0, s1, s2, _, s4, s5, _, _⟩ := hst
    refine bodyPost_ret (v := .tuple #[.agg #[.bool false, .slice none 0 0, .int .i64 0], .int .i64 9]) (by simp [results, Tryz.results103, go_sem, s0, s1, s2]) rfl ?_
    rw [HD2.out]
    exact numE_zero rfl (s5 _ hk5 (by omega))
  | false =>
  have HD2 := Lib.hid (show D = (canon neg (2 ^ p - 1) (16384 - p), 0) from HD1.out)
  rw [HD2.out] at HOK
  clear HD1
  go_wp2_with fail
  with_reducible refine (r3greatest_any neg p _ hp0 hp1).mono ?_
  rintro e8 w8 ⟨a8, c8, rfl, r8, l8, m8, k8⟩
  generalize canon neg (2 ^ p - 1) (16384 - (p : Int)) = F at *
  obtain ⟨q0, q1, q2, f0, f1, f2⟩ := HB5.kp k8
  have hst := stored q0 q1 q2 (fun _ h => by cases h) (fun _ h => by cases h) (fun _ h => by cases h) (.bool F.neg) (.slice a8 (limbs F.m).length c8) (.int .i64 F.e)
  go_wp2_with fail
  generalize (((w8.setCell _ _).setCell _ _).setCell _ _) = W9 at hst ⊢
  obtain ⟨s0, s1, s2, _, s4, s5, _, _⟩ := hst
  refine bodyPost_ret (v := .tuple #[.agg #[.bool F.neg, .slice a8 (limbs F.m).length c8, .int .i64 F.e], .int .i64 0]) (by simp [results, Tryz.results103, go_sem, s0, s1, s2]) rfl ?_
  rw [HD2.out]
  exact DyE.numc ⟨a8, c8, rfl, s4 _ _ r8, l8, m8, s5 _ (hk5.trans k8) (by omega)⟩ HOK.out
end Go.Proofs.YtpocjagbhiahdaaGreatDoor
