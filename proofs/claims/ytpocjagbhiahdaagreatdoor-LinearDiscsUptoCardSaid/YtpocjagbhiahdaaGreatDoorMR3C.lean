/-
  Walks: the third reference's exact, Add.
-/
import Derived.Test.YtpocjagbhiahdaaGreatDoorMR3B
import Derived.Test.YtpocjagbhiahdaaGreatDoorMR3A
import Derived.Test.YtpocjagbhiahdaaGreatDoorMOwnX
import Derived.Test.YtpocjagbhiahdaaGreatDoorMIvM
namespace Go.Proofs.YtpocjagbhiahdaaGreatDoor
open Go.RowKit
set_option maxHeartbeats 2000000 in
theorem r3exact_any (x : RD) (p : Nat) (up : Bool) (w : World) (hx : x.rd w) (hl : x.xs.length ≤ 3000) (he0 : -100000 ≤ x.e) (he1 : x.e ≤ 100000) (hp0 : 8 ≤ p) (hp1 : p ≤ 512) (h0 : val x.xs = 0 → x.e ≤ 16384) :
    Calls Tryz.prog 99 #[.agg #[.bool x.neg, .slice x.a x.xs.length x.c, .int .i64 x.e], .int .i64 (p : Nat), .bool up] w (NumE w (rndE (rndS x.neg (val x.xs) x.e false p up)).1 (rndE (rndS x.neg (val x.xs) x.e false p up)).2) := by
  have HC := Lib.hid (fun W (k : Kp w W) => r3cut_any x.neg false x.a x.xs x.c x.e p up W (hx.kp k).1 hx.2.1 hx.2.2.1 hl he0 he1 hp0 hp1 (fun h => by cases h) h0)
  generalize (rndE (rndS x.neg (val x.xs) x.e false p up)).1 = D at *
  generalize (rndE (rndS x.neg (val x.xs) x.e false p up)).2 = f at *
  clear h0
  go_enter Tryz.func99, Tryz.ntmps99
  go_wp2_with fail
  generalize hW : ((w.alloc _).alloc _) = W at *
  have hk : Kp w W := hW ▸ ((Kp.refl w).alloc _).alloc _
  have hB : Box3 W (w.heap.size + 1) (.bool false) (.slice none 0 0) (.int .i64 0) := hW ▸ Box3.new2 _ _ _ _ _ _
  clear hW
  with_reducible refine (HC.out _ hk).mono ?_
  rintro e w5 ⟨z, rfl, hzr, hzd, hzv, hk5⟩
  obtain ⟨q0, q1, q2, f0, f1, f2⟩ := hB.kp hk5
  have hk6 := hk.trans hk5
  clear hB hk5
  have hst := stored q0 q1 q2 (fun _ h => by cases h) (fun _ h => by cases h) (fun _ h => by cases h) (.bool z.neg) (.slice z.a z.xs.length z.c) (.int .i64 z.e)
  go_wp2_with fail
  generalize (((w5.setCell _ _).setCell _ _).setCell _ _) = W2 at hst ⊢
  obtain ⟨s0, s1, s2, _, s4, s5, _, _⟩ := hst
  refine bodyPost_ret (v := .tuple #[.agg #[.bool z.neg, .slice z.a z.xs.length z.c, .int .i64 z.e], .int .i64 f]) (by simp [results, Tryz.results99, go_sem, s0, s1, s2]) rfl ?_
  exact ⟨z, rfl, ⟨s4 _ _ hzr.1, hzr.2⟩, hzd, hzv, s5 _ hk6 (by omega)⟩
theorem sumD_e (d f : Dy) : -16384 ≤ (sumD d f).e := by
  unfold sumD ofI canon
  split
  · exact (by decide : (-16384 : Int) ≤ 0)
  show -16384 ≤ -16384 + (tz _ : Int); omega
theorem sumD_zero0 {d f : Dy} (h : (sumD d f).m = 0) : sumD d f = .zero := by
  unfold sumD ofI canon at h ⊢
  split
  · rfl
  next h0 =>
  rw [if_neg h0] at h
  have := (oddp_spec h0).1
  have h2 : oddp (d.iv + f.iv).natAbs = 0 := h
  rw [h2] at this
  exact absurd this (by decide)
theorem sum_rnd {d f : Dy} {p : Nat} {up : Bool} (hp : p ≤ 512) : rndS (sumD d f).neg (sumD d f).m (sumD d f).e false p up = rnd 0 (d.iv + f.iv) p up := by
  by_cases h0 : (sumD d f).m = 0
  · have hz := sumD_zero0 h0
    have hi := sumD_iv d f
    rw [hz, Dy.iv_zero] at hi
    rw [hz, ← hi]
    have := rndS_rnd (d := .zero) Dy.ok_zero hp up
    rwa [Dy.iv_zero] at this
  have he := sumD_e d f
  refine rndS_val (a := 0) (b := ((sumD d f).e + 16384).toNat) h0 ?_ (by omega)
  rw [Int.pow_zero, Int.mul_one, ← sumD_iv]
  unfold Dy.iv sg
  split
  · push_cast; rw [Int.neg_mul]
  push_cast; rfl
theorem r2sum_dy (x y : RD) (w : World) (hx : x.ok w) (hy : y.ok w) :
    Calls Tryz.prog 97 #[.agg #[.bool x.neg, .slice x.a x.xs.length x.c, .int .i64 x.e], .agg #[.bool y.neg, .slice y.a y.xs.length y.c, .int .i64 y.e]] w (DyOut w (sumD x.dy y.dy)) := by
  have H := r2sum_ok x.dy y.dy x.a y.a x.c y.c w (rdok_at hx) (rdok_at hy)
  rw [rdok_limbs hx, rdok_limbs hy] at H
  exact H
theorem r3exact_dy (D : Dy) (a : Option Addr) (c : Nat) (p : Nat) (up : Bool) (w : World) (hr : Rd w a (limbs D.m)) (hl : (limbs D.m).length ≤ c) (hm : c ≤ maxLen) (hll : (limbs D.m).length ≤ 3000) (he0 : -100000 ≤ D.e) (he1 : D.e ≤ 100000) (hp0 : 8 ≤ p) (hp1 : p ≤ 512) (h0 : D.m = 0 → D.e ≤ 16384) :
    Calls Tryz.prog 99 #[.agg #[.bool D.neg, .slice a (limbs D.m).length c, .int .i64 D.e], .int .i64 (p : Nat), .bool up] w (NumE w (rndE (rndS D.neg D.m D.e false p up)).1 (rndE (rndS D.neg D.m D.e false p up)).2) := by
  have := r3exact_any ⟨D.neg, a, limbs D.m, c, D.e⟩ p up w ⟨hr, hl, hm, by show (limbs D.m).length ≤ 1100000; omega, by show _ ≤ D.e; omega, by show D.e ≤ _; omega⟩ hll he0 he1 hp0 hp1 (by rw [val_limbs]; exact h0)
  rw [val_limbs] at this
  exact this
set_option maxHeartbeats 4000000 in
set_option maxRecDepth 100000 in
theorem r3add_any (x y : RD) (p : Int) (up : Bool) (w : World) (hx : x.rd w) (hy : y.rd w) :
    Calls Tryz.prog 45 #[.agg #[.bool x.neg, .slice x.a x.xs.length x.c, .int .i64 x.e], .agg #[.bool y.neg, .slice y.a y.xs.length y.c, .int .i64 y.e], .int .i64 p, .bool up] w (NumE w (addB x y p up).1 (addB x y p up).2) := by
  obtain ⟨D, hD⟩ : ∃ D, D = addB x y p up := ⟨_, rfl⟩
  have HD := Lib.hid hD
  rw [← hD]
  clear hD
  go_enter Tryz.func45, Tryz.ntmps45
  go_wp2_with fail
  generalize hW : (((w.alloc _).alloc _).alloc _) = W at *
  have hk : Kp w W := hW ▸ (((Kp.refl w).alloc _).alloc _).alloc _
  have hS : W.cell? ⟨w.heap.size, 0, none⟩ = some (.bool x.neg) ∧ W.cell? ⟨w.heap.size, 1, none⟩ = some (.slice x.a x.xs.length x.c) ∧ W.cell? ⟨w.heap.size, 2, none⟩ = some (.int .i64 x.e) ∧ W.cell? ⟨w.heap.size + 1, 0, none⟩ = some (.bool y.neg) ∧ W.cell? ⟨w.heap.size + 1, 1, none⟩ = some (.slice y.a y.xs.length y.c) ∧ W.cell? ⟨w.heap.size + 1, 2, none⟩ = some (.int .i64 y.e) := by rw [← hW]; exact keep6 ((Kp.refl _).alloc _) (by simp)
  have hB : Box3 W (w.heap.size + 2) (.bool false) (.slice none 0 0) (.int .i64 0) := hW ▸ Box3.new3 _ _ _ _ _ _ _
  clear hW
  refine (r3fault_any x y p _ (hx.kp hk) (hy.kp hk)).mono ?_
  rintro e w1 ⟨rfl, hk1⟩
  have hS1 := keepRR hk1 hS
  have hB1 := hB.kp hk1
  have hk2 := hk.trans hk1
  clear hS hB hk hk1
  by_cases h0 : fltB p [x, y] = 0
  rotate_left
  · have hz2 : (fltB p [x, y] != 0) = true := by simpa using h0
    have HD2 := Lib.hid (show D = (.zero, fltB p [x, y]) by rw [HD.out]; unfold addB; rw [if_neg h0])
    clear h0 hS1
    obtain ⟨q0, q1, q2, f0, f1, f2⟩ := hB1
    go_wp2_with fail
    have hst := stored q0 q1 q2 (fun _ h => by cases h) (fun _ h => by cases h) (fun _ h => by cases h) (.bool false) (.slice none 0 0) (.int .i64 0)
    generalize (((w1.setCell _ _).setCell _ _).setCell _ _) = W9 at hst ⊢
    obtain ⟨s0, s1, s2, _, s4, s5, _, _⟩ := hst
    refine bodyPost_ret (v := .tuple #[.agg #[.bool false, .slice none 0 0, .int .i64 0], .int .i64 (fltB p [x, y])]) (by simp [results, Tryz.results45, go_sem, s0, s1, s2]) rfl ?_
    rw [HD2.out]
    exact numE_zero rfl (s5 _ hk2 (by omega))
  obtain ⟨hv, hp0, hp1⟩ := fltB_zero.1 h0
  obtain ⟨q, rfl⟩ := Int.eq_ofNat_of_zero_le (show 0 ≤ p by omega)
  have hxo : x.ok w1 := ⟨hx.kp hk2, by simpa using (List.all_eq_true.1 hv) x (by simp)⟩
  have hyo : y.ok w1 := ⟨hy.kp hk2, by simpa using (List.all_eq_true.1 hv) y (by simp)⟩
  have HD2 := Lib.hid (show D = rndE (rndS (sumD x.dy y.dy).neg (sumD x.dy y.dy).m (sumD x.dy y.dy).e false q up) by
    rw [HD.out, sum_rnd (by omega)]; unfold addB; rw [if_pos h0]; rfl)
  rw [h0]
  clear h0 hv HD
  obtain ⟨hsl, hse⟩ := sumD_small (rdok_dy hxo) (rdok_dy hyo)
  have hse0 := sumD_e x.dy y.dy
  have hse1 : (sumD x.dy y.dy).e ≤ 100000 := by
    have h1 := bits_add_le (av_bits_le (rdok_dy hxo)) (av_bits_le (rdok_dy hyo))
    have h2 : (x.dy.iv + y.dy.iv).natAbs ≤ x.dy.av + y.dy.av := by
      rw [Dy.iv_av, Dy.iv_av]
      unfold sg
      split <;> split <;> omega
    have h3 := Nat.le_trans (bits_mono h2) h1
    unfold sumD ofI canon
    split
    · exact (by decide : (0 : Int) ≤ 100000)
    · next h0 => have := bits_of_nz h0; show -16384 + (tz _ : Int) ≤ 100000; omega
  have HZ := Lib.hid (@sumD_zero0 x.dy y.dy)
  obtain ⟨s0, s1, s2, t0, t1, t2⟩ := hS1
  have HS := Lib.hid (r2sum_dy x y w1 hxo hyo)
  clear hxo hyo
  go_wp2_with fail
  refine HS.out.mono ?_
  rintro e w3 ⟨a3, c3, rfl, r3, l3, m3, k3⟩
  have hEx := r3exact_dy (sumD x.dy y.dy) a3 c3 q up w3 r3 l3 m3 (by omega) (by omega) hse1 (by omega) (by omega) (fun h => by rw [HZ.out h]; decide)
  rw [← HD2.out] at hEx
  have HE := Lib.hid hEx
  clear hEx HS HZ s0 s1 s2 t0 t1 t2 hse hse0 hse1 hsl
  generalize sumD x.dy y.dy = G at *
  go_wp2_with fail
  refine HE.out.mono ?_
  rintro e w5 ⟨z, rfl, hzr, hzd, hzv, hk5⟩
  obtain ⟨q0, q1, q2, f0, f1, f2⟩ := (hB1.kp k3).kp hk5
  have hk6 := (hk2.trans k3).trans hk5
  clear hB1 hk5 HE r3
  have hst := stored q0 q1 q2 (fun _ h => by cases h) (fun _ h => by cases h) (fun _ h => by cases h) (.bool z.neg) (.slice z.a z.xs.length z.c) (.int .i64 z.e)
  go_wp2_with fail
  generalize (((w5.setCell _ _).setCell _ _).setCell _ _) = W2 at hst ⊢
  obtain ⟨s0, s1, s2, _, s4, s5, _, _⟩ := hst
  refine bodyPost_ret (v := .tuple #[.agg #[.bool z.neg, .slice z.a z.xs.length z.c, .int .i64 z.e], .int .i64 D.2]) (by simp [results, Tryz.results45, go_sem, s0, s1, s2]) rfl ?_
  exact ⟨z, rfl, ⟨s4 _ _ hzr.1, hzr.2⟩, hzd, hzv, s5 _ hk6 (by omega)⟩
set_option maxRecDepth 100000 in
set_option maxHeartbeats 8000000 in
theorem r5add_any (x y : RI) (p : Nat) (w : World) (hx : x.rd w) (hy : y.rd w) (vx : x.vl = true) (vy : y.vl = true) (h0 : 8 ≤ p) (h1 : p ≤ 512) (hT : Tab w) :
    Calls Tryz.prog 91 #[.agg #[.bool x.lo.neg, .slice x.lo.a x.lo.xs.length x.lo.c, .int .i64 x.lo.e, .bool x.hi.neg, .slice x.hi.a x.hi.xs.length x.hi.c, .int .i64 x.hi.e, .bool x.all], .agg #[.bool y.lo.neg, .slice y.lo.a y.lo.xs.length y.lo.c, .int .i64 y.lo.e, .bool y.hi.neg, .slice y.hi.a y.hi.xs.length y.hi.c, .int .i64 y.hi.e, .bool y.all], .int .i64 p] w (IvOut w (pAdd x.pl y.pl p)) := by
  have Hp := Lib.hid (show preB (p : Int) = true from preB_iff.2 ⟨by omega, by omega⟩)
  go_enter Tryz.func91, Tryz.ntmps91
  go_wp2_with fail
  generalize hW : (((w.alloc _).alloc _).alloc _) = W at *
  have hk : Kp w W := hW ▸ (((Kp.refl w).alloc _).alloc _).alloc _
  have hS : (W.cell? ⟨w.heap.size, 0, none⟩ = some (.bool x.lo.neg) ∧ W.cell? ⟨w.heap.size, 1, none⟩ = some (.slice x.lo.a x.lo.xs.length x.lo.c) ∧ W.cell? ⟨w.heap.size, 2, none⟩ = some (.int .i64 x.lo.e) ∧ W.cell? ⟨w.heap.size, 3, none⟩ = some (.bool x.hi.neg) ∧ W.cell? ⟨w.heap.size, 4, none⟩ = some (.slice x.hi.a x.hi.xs.length x.hi.c) ∧ W.cell? ⟨w.heap.size, 5, none⟩ = some (.int .i64 x.hi.e) ∧ W.cell? ⟨w.heap.size, 6, none⟩ = some (.bool x.all)) ∧ W.cell? ⟨w.heap.size + 1, 0, none⟩ = some (.bool y.lo.neg) ∧ W.cell? ⟨w.heap.size + 1, 1, none⟩ = some (.slice y.lo.a y.lo.xs.length y.lo.c) ∧ W.cell? ⟨w.heap.size + 1, 2, none⟩ = some (.int .i64 y.lo.e) ∧ W.cell? ⟨w.heap.size + 1, 3, none⟩ = some (.bool y.hi.neg) ∧ W.cell? ⟨w.heap.size + 1, 4, none⟩ = some (.slice y.hi.a y.hi.xs.length y.hi.c) ∧ W.cell? ⟨w.heap.size + 1, 5, none⟩ = some (.int .i64 y.hi.e) ∧ W.cell? ⟨w.heap.size + 1, 6, none⟩ = some (.bool y.all) := by rw [← hW]; exact keep77 ((Kp.refl _).alloc _) (by simp)
  have hV : Var7 W (w.heap.size + 1 + 1) := by rw [← hW]; exact Var7.new2 _ _ _ _
  clear hW
  go_fit (r5prec_any (p : Int) _)
  rintro e w0 ⟨rfl, rfl⟩
  rw [Hp.out]
  obtain ⟨⟨s0, s1, s2, s3, s4, s5, s6⟩, t0, t1, t2, t3, t4, t5, t6⟩ := id hS
  go_wp2_with fail
  go_fit (r5known_any x _ (hx.kp hk))
  rintro e w1 ⟨rfl, hk1⟩
  have hS1 := keep77 hk1 hS
  have hV1 := hV.kp hk1
  have hk2 := (hk.trans hk1)
  have hT1 := hT.kp hk2
  have hx1 := hx.kp hk2
  have hy1 := hy.kp hk2
  have gx := goodI_vl vx
  have gy := goodI_vl vy
  clear hS hV hk hk1 s0 s1 s2 s3 s4 s5 s6 t0 t1 t2 t3 t4 t5 t6
  cases hax : x.all with
  | true =>
    have HP := Lib.hid (show pAdd x.pl y.pl p = .whole by unfold pAdd; rw [if_pos (by show (x.all || y.all) = true; rw [hax]; rfl)])
    have hg : goodI x = false := by rw [gx, hax]; rfl
    rw [hg]
    clear hg gx gy hS1
    go_wp2_with fail
    go_fit (r5Whole_any _)
    rintro e wz ⟨rfl, hkz⟩
    have hk4 := hk2.trans hkz
    obtain ⟨⟨q0, q1, q2, q3, q4, q5, q6⟩, f0, f1, f2, f3, f4, f5, f6⟩ := hV1.kp hkz
    go_wp2_with fail
    generalize hW9 : ((((((wz.setCell _ _).setCell _ _).setCell _ _).setCell _ _).setCell _ _).setCell _ _).setCell _ _ = W9
    obtain ⟨⟨s0, s1, s2, s3, s4, s5, s6⟩, hU⟩ := stored7 (show Box7 wz _ _ _ _ _ _ _ _ from ⟨q0, q1, q2, q3, q4, q5, q6⟩) (fun _ h => by cases h) (fun _ h => by cases h) (fun _ h => by cases h) (fun _ h => by cases h) (fun _ h => by cases h) (fun _ h => by cases h) (fun _ h => by cases h) _ _ _ _ _ _ _ hW9
    clear hW9 q0 q1 q2 q3 q4 q5 q6 f0 f1 f2 f3 f4 f5 f6
    refine bodyPost_ret (v := .agg #[.bool false, .slice none 0 0, .int .i64 0, .bool false, .slice none 0 0, .int .i64 0, .bool true]) (by simp [results, Tryz.results91, go_sem, s0, s1, s2, s3, s4, s5, s6]) rfl ?_
    rw [HP.out]
    exact ⟨wholeR, rfl, wholeR_rd _, rfl, rfl, hU.2.2.1 _ hk4 (by omega)⟩
  | false =>
  have hg : goodI x = true := by rw [gx, hax]; rfl
  rw [hg]
  clear hg gx
  obtain ⟨⟨s0, s1, s2, s3, s4, s5, s6⟩, t0, t1, t2, t3, t4, t5, t6⟩ := id hS1
  have Hax := Lib.hid hax
  clear hax
  go_wp2_with fail
  go_fit (r5known_any y _ hy1)
  rintro e w1b ⟨rfl, hk1⟩
  replace hS1 := keep77 hk1 hS1
  replace hV1 := hV1.kp hk1
  replace hk2 := (hk2.trans hk1)
  replace hx1 := hx1.kp hk1
  replace hy1 := hy1.kp hk1
  clear hk1 hT1 s0 s1 s2 s3 s4 s5 s6 t0 t1 t2 t3 t4 t5 t6
  have hax := Hax.out
  cases hay : y.all with
  | true =>
    have HP := Lib.hid (show pAdd x.pl y.pl p = .whole by unfold pAdd; rw [if_pos (by show (x.all || y.all) = true; rw [hay]; simp)])
    have hg : goodI y = false := by rw [gy, hay]; rfl
    rw [hg]
    clear hg gy hS1 hax
    go_wp2_with fail
    go_fit (r5Whole_any _)
    rintro e wz ⟨rfl, hkz⟩
    have hk4 := hk2.trans hkz
    obtain ⟨⟨q0, q1, q2, q3, q4, q5, q6⟩, f0, f1, f2, f3, f4, f5, f6⟩ := hV1.kp hkz
    go_wp2_with fail
    generalize hW9 : ((((((wz.setCell _ _).setCell _ _).setCell _ _).setCell _ _).setCell _ _).setCell _ _).setCell _ _ = W9
    obtain ⟨⟨s0, s1, s2, s3, s4, s5, s6⟩, hU⟩ := stored7 (show Box7 wz _ _ _ _ _ _ _ _ from ⟨q0, q1, q2, q3, q4, q5, q6⟩) (fun _ h => by cases h) (fun _ h => by cases h) (fun _ h => by cases h) (fun _ h => by cases h) (fun _ h => by cases h) (fun _ h => by cases h) (fun _ h => by cases h) _ _ _ _ _ _ _ hW9
    clear hW9 q0 q1 q2 q3 q4 q5 q6 f0 f1 f2 f3 f4 f5 f6
    refine bodyPost_ret (v := .agg #[.bool false, .slice none 0 0, .int .i64 0, .bool false, .slice none 0 0, .int .i64 0, .bool true]) (by simp [results, Tryz.results91, go_sem, s0, s1, s2, s3, s4, s5, s6]) rfl ?_
    rw [HP.out]
    exact ⟨wholeR, rfl, wholeR_rd _, rfl, rfl, hU.2.2.1 _ hk4 (by omega)⟩
  | false =>
  have hg : goodI y = true := by rw [gy, hay]; rfl
  rw [hg]
  clear hg gy
  have ox := ok_of hx1 vx hax
  have oy := ok_of hy1 vy hay
  have HP := Lib.hid (show pAdd x.pl y.pl p = mkI (adP x.lo.dy y.lo.dy p false) (adP x.hi.dy y.hi.dy p true) by unfold pAdd; rw [if_neg (by show ¬ (x.all || y.all) = true; rw [hax, hay]; decide)]; rfl)
  have E1 := Lib.hid (addB_dy ox.lo oy.lo h0 h1 false)
  have E2 := Lib.hid (addB_dy ox.hi oy.hi h0 h1 true)
  have HOK := Lib.hid (fun a b => rndE_between (K := 0) (S := x.lo.dy.iv + y.lo.dy.iv) (T := x.hi.dy.iv + y.hi.dy.iv) (p := p) (q := p) (by omega) (by omega) (by omega) (by omega) (by
    have u1 := ox.parts.2.2
    have u2 := oy.parts.2.2
    show x.lo.iv + y.lo.iv ≤ x.hi.iv + y.hi.iv
    omega) a b)
  have C1 := fun (W : World) (k : Kp w1b W) => r3add_any x.lo y.lo (p : Int) false W (ox.lo.1.kp k) (oy.lo.1.kp k)
  have C2 := fun (W : World) (k : Kp w1b W) => r3add_any x.hi y.hi (p : Int) true W (ox.hi.1.kp k) (oy.hi.1.kp k)
  rw [E1.out] at C1
  rw [E2.out] at C2
  have K1 := Lib.hid (adP_ok x.lo.dy y.lo.dy h0 h1 false)
  have K2 := Lib.hid (adP_ok x.hi.dy y.hi.dy h0 h1 true)
  obtain ⟨L, hL⟩ : ∃ L, L = adP x.lo.dy y.lo.dy p false := ⟨_, rfl⟩
  obtain ⟨H, hH⟩ : ∃ H, H = adP x.hi.dy y.hi.dy p true := ⟨_, rfl⟩
  have HOK2 := Lib.hid (show L.2 = 0 → H.2 = 0 → L.1.iv ≤ H.1.iv by rw [hL, hH]; exact HOK.out)
  rw [← hL] at C1 HP K1
  rw [← hH] at C2 HP K2
  have D1 := Lib.hid C1
  have D2 := Lib.hid C2
  clear hax hay C1 C2 E1 E2 HOK hL hH
  have Ox := Lib.hid ox
  have Oy := Lib.hid oy
  clear ox oy
  go_wp2_with fail
  obtain ⟨⟨s0, s1, s2, s3, s4, s5, s6⟩, t0, t1, t2, t3, t4, t5, t6⟩ := id hS1
  go_wp2_with fail
  go_fit (D1.out _ (.refl _))
  rintro e w3 ⟨z1, rfl, rz, dz, vz, k3⟩
  have ka := (Kp.refl w3).alloc (.cells #[.bool z1.neg, .slice z1.a z1.xs.length z1.c, .int .i64 z1.e] 42)
  have k3a := k3.trans ka
  have R1 := Lib.hid (rz.kp ka)
  have Z1 := Lib.hid (And.intro dz (vz K1.out))
  have hS2 := keep77 k3a hS1
  have hV2 := hV1.kp k3a
  have hk3 := hk2.trans k3a
  clear rz dz vz hS1 hV1 s0 s1 s2 s3 s4 s5 s6 t0 t1 t2 t3 t4 t5 t6 k3
  obtain ⟨⟨s0, s1, s2, s3, s4, s5, s6⟩, t0, t1, t2, t3, t4, t5, t6⟩ := id hS2
  go_wp2_with fail
  generalize hA3 : w3.alloc _ = A3 at *
  have hZ1 : A3.cell? ⟨w3.heap.size, 0, none⟩ = some (.bool z1.neg) ∧ A3.cell? ⟨w3.heap.size, 1, none⟩ = some (.slice z1.a z1.xs.length z1.c) ∧ A3.cell? ⟨w3.heap.size, 2, none⟩ = some (.int .i64 z1.e) := by rw [← hA3]; simp
  clear hA3 ka
  go_fit (D2.out _ k3a)
  rintro e w4 ⟨z2, rfl, rz, dz, vz, k4⟩
  have ka := (Kp.refl w4).alloc (.cells #[.bool z2.neg, .slice z2.a z2.xs.length z2.c, .int .i64 z2.e] 42)
  have k4a := k4.trans ka
  have R2 := Lib.hid (rz.kp ka)
  have Z2 := Lib.hid (And.intro dz (vz K2.out))
  have hZ1b := keep3 k4a hZ1
  have R1b := Lib.hid (R1.out.kp k4a)
  have hV3 := hV2.kp k4a
  have hk4 := hk3.trans k4a
  clear rz dz vz hS2 hV2 hZ1 R1 s0 s1 s2 s3 s4 s5 s6 t0 t1 t2 t3 t4 t5 t6 k4 D1 D2
  obtain ⟨m0, m1, m2⟩ := hZ1b
  go_wp2_with fail
  generalize hA4 : w4.alloc _ = A4 at *
  obtain ⟨n0, n1, n2⟩ : A4.cell? ⟨w4.heap.size, 0, none⟩ = some (.bool z2.neg) ∧ A4.cell? ⟨w4.heap.size, 1, none⟩ = some (.slice z2.a z2.xs.length z2.c) ∧ A4.cell? ⟨w4.heap.size, 2, none⟩ = some (.int .i64 z2.e) := by rw [← hA4]; simp
  clear hA4 ka
  go_fit (r5made_any z1 z2 _ _ _)
  rintro e w5 ⟨rfl, k5⟩
  have hk5 := hk4.trans k5
  obtain ⟨⟨q0, q1, q2, q3, q4, q5, q6⟩, f0, f1, f2, f3, f4, f5, f6⟩ := hV3.kp k5
  have R3 := Lib.hid (madeR_rd (e := L.2) (f := H.2) (R1b.out.kp k5) (R2.out.kp k5))
  have Zp := Lib.hid (madeR_pl (l := L) (h := H) Z1.out.1 Z2.out.1)
  have Zv := Lib.hid (madeR_vl (l := L) (h := H) Z1.out.1 Z2.out.1 Z1.out.2 Z2.out.2 HOK2.out)
  clear m0 m1 m2 n0 n1 n2 hV3
  generalize madeR z1 z2 L.2 H.2 = Z at *
  go_wp2_with fail
  generalize hW9 : ((((((w5.setCell _ _).setCell _ _).setCell _ _).setCell _ _).setCell _ _).setCell _ _).setCell _ _ = W9
  obtain ⟨⟨s0, s1, s2, s3, s4, s5, s6⟩, hU⟩ := stored7 (show Box7 w5 _ _ _ _ _ _ _ _ from ⟨q0, q1, q2, q3, q4, q5, q6⟩) (fun _ h => by cases h) (fun _ h => by cases h) (fun _ h => by cases h) (fun _ h => by cases h) (fun _ h => by cases h) (fun _ h => by cases h) (fun _ h => by cases h) _ _ _ _ _ _ _ hW9
  clear hW9 q0 q1 q2 q3 q4 q5 q6 f0 f1 f2 f3 f4 f5 f6
  refine bodyPost_ret (v := .agg #[.bool Z.lo.neg, .slice Z.lo.a Z.lo.xs.length Z.lo.c, .int .i64 Z.lo.e, .bool Z.hi.neg, .slice Z.hi.a Z.hi.xs.length Z.hi.c, .int .i64 Z.hi.e, .bool Z.all]) (by simp [results, Tryz.results91, go_sem, s0, s1, s2, s3, s4, s5, s6]) rfl ?_
  rw [HP.out]
  exact ⟨Z, rfl, hU.rdI R3.out, Zp.out, Zv.out, hU.2.2.1 _ hk5 (by omega)⟩
set_option maxRecDepth 100000 in
set_option maxHeartbeats 8000000 in
theorem r5neg_any (x : RI) (w : World) (hx : x.rd w) (vx : x.vl = true) :
    Calls Tryz.prog 130 #[.agg #[.bool x.lo.neg, .slice x.lo.a x.lo.xs.length x.lo.c, .int .i64 x.lo.e, .bool x.hi.neg, .slice x.hi.a x.hi.xs.length x.hi.c, .int .i64 x.hi.e, .bool x.all]] w (IvOut w x.pl.neg) := by
  go_enter Tryz.func130, Tryz.ntmps130
  go_wp2_with fail
  generalize hW : ((w.alloc _).alloc _) = W at *
  have hk : Kp w W := by rw [← hW]; exact ((Kp.refl w).alloc _).alloc _
  have hS : W.cell? ⟨w.heap.size, 0, none⟩ = some (.bool x.lo.neg) ∧ W.cell? ⟨w.heap.size, 1, none⟩ = some (.slice x.lo.a x.lo.xs.length x.lo.c) ∧ W.cell? ⟨w.heap.size, 2, none⟩ = some (.int .i64 x.lo.e) ∧ W.cell? ⟨w.heap.size, 3, none⟩ = some (.bool x.hi.neg) ∧ W.cell? ⟨w.heap.size, 4, none⟩ = some (.slice x.hi.a x.hi.xs.length x.hi.c) ∧ W.cell? ⟨w.heap.size, 5, none⟩ = some (.int .i64 x.hi.e) ∧ W.cell? ⟨w.heap.size, 6, none⟩ = some (.bool x.all) := by rw [← hW]; simp
  have hV : Var7 W (w.heap.size + 1) := by rw [← hW]; exact Var7.new1 _ _ _
  clear hW
  go_fit (r5known_any x _ (hx.kp hk))
  rintro e w1 ⟨rfl, hk1⟩
  have hS1 := keep7 hk1 hS
  have hV1 := hV.kp hk1
  have hk2 := (hk.trans hk1)
  have hx1 := hx.kp hk2
  clear hS hV hk hk1
  cases ha : x.all with
  | true =>
    have hg : goodI x = false := by rw [goodI_vl vx, ha]; rfl
    have HP := Lib.hid (show x.pl.neg = .whole by unfold PI.neg; rw [if_pos (by exact ha)])
    rw [hg]
    clear hg ha hS1
    go_wp2_with fail
    go_fit (r5Whole_any _)
    rintro e w2 ⟨rfl, hk3⟩
    have hk4 := hk2.trans hk3
    obtain ⟨⟨q0, q1, q2, q3, q4, q5, q6⟩, f0, f1, f2, f3, f4, f5, f6⟩ := hV1.kp hk3
    go_wp2_with fail
    generalize hW9 : ((((((w2.setCell _ _).setCell _ _).setCell _ _).setCell _ _).setCell _ _).setCell _ _).setCell _ _ = W9
    obtain ⟨⟨s0, s1, s2, s3, s4, s5, s6⟩, hU⟩ := stored7 (show Box7 w2 _ _ _ _ _ _ _ _ from ⟨q0, q1, q2, q3, q4, q5, q6⟩) (fun _ h => by cases h) (fun _ h => by cases h) (fun _ h => by cases h) (fun _ h => by cases h) (fun _ h => by cases h) (fun _ h => by cases h) (fun _ h => by cases h) _ _ _ _ _ _ _ hW9
    clear hW9 q0 q1 q2 q3 q4 q5 q6 f0 f1 f2 f3 f4 f5 f6
    refine bodyPost_ret (v := .agg #[.bool false, .slice none 0 0, .int .i64 0, .bool false, .slice none 0 0, .int .i64 0, .bool true]) (by simp [results, Tryz.results130, go_sem, s0, s1, s2, s3, s4, s5, s6]) rfl ?_
    rw [HP.out]
    exact ⟨wholeR, rfl, wholeR_rd _, rfl, rfl, hU.2.2.1 _ hk4 (by omega)⟩
  | false =>
  have ox := ok_of hx1 vx ha
  have hg : goodI x = true := (goodI_ok ox.1).2 ox
  have HP := Lib.hid (show x.pl.neg = ⟨x.hi.dy.opp, x.lo.dy.opp, false⟩ by unfold PI.neg; rw [if_neg (by show ¬ x.all = true; rw [ha]; decide)]; rfl)
  rw [hg]
  clear hg
  obtain ⟨hB, hF⟩ := hV1
  have kd := (Kp.refl w1).drew
  have hB2 := hB.kp kd
  have hF2 := hF.kp hB kd
  have Ox := Lib.hid (ox.kp kd)
  have hk3 := hk2.trans kd
  have hS4 := keep7 kd hS1
  clear hB hF hS1 kd hk2 ox hx1 ha
  go_wp2_with fail
  go_region_held3 (fun w' => w'.cell? ⟨w.heap.size, 0, none⟩ = some (.bool x.lo.neg) ∧ w'.cell? ⟨w.heap.size, 1, none⟩ = some (.slice x.lo.a x.lo.xs.length x.lo.c) ∧ w'.cell? ⟨w.heap.size, 2, none⟩ = some (.int .i64 x.lo.e) ∧ w'.cell? ⟨w.heap.size, 3, none⟩ = some (.bool x.hi.neg) ∧ w'.cell? ⟨w.heap.size, 4, none⟩ = some (.slice x.hi.a x.hi.xs.length x.hi.c) ∧ w'.cell? ⟨w.heap.size, 5, none⟩ = some (.int .i64 x.hi.e) ∧ w'.cell? ⟨w.heap.size, 6, none⟩ = some (.bool x.all)) (first | with_reducible assumption | with_reducible exact keep7 (by assumption) (by assumption) | with_reducible exact set7one (by omega) (by assumption))
    (first
      | (go_at_call 46; go_fit (r2Neg_ok x.hi _ Ox.out.hi); rintro e w4 ⟨z1, rfl, r1, d1, v1, hk4⟩)
      | (go_at_call 46; go_fit (r2Neg_ok x.lo _ (Ox.out.lo.kp hk4)); rintro e w5 ⟨z2, rfl, r2, d2, v2, hk5⟩; have hk6 := hk4.trans hk5; obtain ⟨q0, q1, q2, q3, q4, q5, q6⟩ := hB2.kp hk6; obtain ⟨f0, f1, f2, f3, f4, f5, f6⟩ := hF2.kp hB2 hk6)
      | fail)
  have hk7 := hk3.trans hk6
  have R1 := Lib.hid (r1.kp hk5)
  have R2 := Lib.hid r2
  have E1 := Lib.hid (And.intro d1 (v1 (Dy.opp_ok2 (rdok_dy Ox.out.hi))))
  have E2 := Lib.hid (And.intro d2 (v2 (Dy.opp_ok2 (rdok_dy Ox.out.lo))))
  have HL := Lib.hid (show z1.iv ≤ z2.iv by
    show z1.dy.iv ≤ z2.dy.iv
    rw [E1.out.1, E2.out.1, Dy.opp_iv, Dy.opp_iv]
    have := Ox.out.parts.2.2
    have h1 : x.lo.dy.iv ≤ x.hi.dy.iv := this
    omega)
  clear hS4 hB2 hF2 r1 r2 d1 d2 v1 v2
  go_wp2_with fail
  generalize hW9 : ((((((w5.setCell _ _).setCell _ _).setCell _ _).setCell _ _).setCell _ _).setCell _ _).setCell _ _ = W9
  obtain ⟨⟨s0, s1, s2, s3, s4, s5, s6⟩, hU⟩ := stored7 (show Box7 w5 _ _ _ _ _ _ _ _ from ⟨q0, q1, q2, q3, q4, q5, q6⟩) (fun _ h => by cases h) (fun _ h => by cases h) (fun _ h => by cases h) (fun _ h => by cases h) (fun _ h => by cases h) (fun _ h => by cases h) (fun _ h => by cases h) _ _ _ _ _ _ _ hW9
  clear hW9 q0 q1 q2 q3 q4 q5 q6 f0 f1 f2 f3 f4 f5 f6
  refine bodyPost_ret (v := .agg #[.bool (RI.mk z1 z2 false).lo.neg, .slice (RI.mk z1 z2 false).lo.a (RI.mk z1 z2 false).lo.xs.length (RI.mk z1 z2 false).lo.c, .int .i64 (RI.mk z1 z2 false).lo.e, .bool (RI.mk z1 z2 false).hi.neg, .slice (RI.mk z1 z2 false).hi.a (RI.mk z1 z2 false).hi.xs.length (RI.mk z1 z2 false).hi.c, .int .i64 (RI.mk z1 z2 false).hi.e, .bool (RI.mk z1 z2 false).all]) (by simp [results, Tryz.results130, go_sem, s0, s1, s2, s3, s4, s5, s6]) rfl ?_
  rw [HP.out]
  exact ⟨⟨z1, z2, false⟩, rfl, hU.rdI ⟨R1.out, R2.out⟩, by unfold RI.pl; rw [E1.out.1, E2.out.1], vl_mk2 E1.out.2 E2.out.2 HL.out, hU.2.2.1 _ hk7 (by omega)⟩
set_option maxRecDepth 100000 in
set_option maxHeartbeats 8000000 in
theorem r5sub_any (x y : RI) (p : Nat) (w : World) (hx : x.rd w) (hy : y.rd w) (vx : x.vl = true) (vy : y.vl = true) (h0 : 8 ≤ p) (h1 : p ≤ 512) (hT : Tab w) :
    Calls Tryz.prog 90 #[.agg #[.bool x.lo.neg, .slice x.lo.a x.lo.xs.length x.lo.c, .int .i64 x.lo.e, .bool x.hi.neg, .slice x.hi.a x.hi.xs.length x.hi.c, .int .i64 x.hi.e, .bool x.all], .agg #[.bool y.lo.neg, .slice y.lo.a y.lo.xs.length y.lo.c, .int .i64 y.lo.e, .bool y.hi.neg, .slice y.hi.a y.hi.xs.length y.hi.c, .int .i64 y.hi.e, .bool y.all], .int .i64 p] w (IvOut w (pSub x.pl y.pl p)) := by
  go_enter Tryz.func90, Tryz.ntmps90
  go_wp2_with fail
  generalize hW : (((w.alloc _).alloc _).alloc _) = W at *
  have hk : Kp w W := hW ▸ (((Kp.refl w).alloc _).alloc _).alloc _
  have hS : (W.cell? ⟨w.heap.size, 0, none⟩ = some (.bool x.lo.neg) ∧ W.cell? ⟨w.heap.size, 1, none⟩ = some (.slice x.lo.a x.lo.xs.length x.lo.c) ∧ W.cell? ⟨w.heap.size, 2, none⟩ = some (.int .i64 x.lo.e) ∧ W.cell? ⟨w.heap.size, 3, none⟩ = some (.bool x.hi.neg) ∧ W.cell? ⟨w.heap.size, 4, none⟩ = some (.slice x.hi.a x.hi.xs.length x.hi.c) ∧ W.cell? ⟨w.heap.size, 5, none⟩ = some (.int .i64 x.hi.e) ∧ W.cell? ⟨w.heap.size, 6, none⟩ = some (.bool x.all)) ∧ W.cell? ⟨w.heap.size + 1, 0, none⟩ = some (.bool y.lo.neg) ∧ W.cell? ⟨w.heap.size + 1, 1, none⟩ = some (.slice y.lo.a y.lo.xs.length y.lo.c) ∧ W.cell? ⟨w.heap.size + 1, 2, none⟩ = some (.int .i64 y.lo.e) ∧ W.cell? ⟨w.heap.size + 1, 3, none⟩ = some (.bool y.hi.neg) ∧ W.cell? ⟨w.heap.size + 1, 4, none⟩ = some (.slice y.hi.a y.hi.xs.length y.hi.c) ∧ W.cell? ⟨w.heap.size + 1, 5, none⟩ = some (.int .i64 y.hi.e) ∧ W.cell? ⟨w.heap.size + 1, 6, none⟩ = some (.bool y.all) := by rw [← hW]; exact keep77 ((Kp.refl _).alloc _) (by simp)
  have hV : Var7 W (w.heap.size + 1 + 1) := by rw [← hW]; exact Var7.new2 _ _ _ _
  clear hW
  obtain ⟨hB, hF⟩ := hV
  have kd := (Kp.refl W).drew
  have hB2 := hB.kp kd
  have hF2 := hF.kp hB kd
  have hk3 := hk.trans kd
  have hS4 := keep77 kd hS
  have Rx := Lib.hid (hx.kp hk3)
  have Ry := Lib.hid (hy.kp hk3)
  have HT := Lib.hid (hT.kp hk3)
  clear hB hF hS kd hk
  go_region_held3 (fun w' => (w'.cell? ⟨w.heap.size, 0, none⟩ = some (.bool x.lo.neg) ∧ w'.cell? ⟨w.heap.size, 1, none⟩ = some (.slice x.lo.a x.lo.xs.length x.lo.c) ∧ w'.cell? ⟨w.heap.size, 2, none⟩ = some (.int .i64 x.lo.e) ∧ w'.cell? ⟨w.heap.size, 3, none⟩ = some (.bool x.hi.neg) ∧ w'.cell? ⟨w.heap.size, 4, none⟩ = some (.slice x.hi.a x.hi.xs.length x.hi.c) ∧ w'.cell? ⟨w.heap.size, 5, none⟩ = some (.int .i64 x.hi.e) ∧ w'.cell? ⟨w.heap.size, 6, none⟩ = some (.bool x.all)) ∧ w'.cell? ⟨w.heap.size + 1, 0, none⟩ = some (.bool y.lo.neg) ∧ w'.cell? ⟨w.heap.size + 1, 1, none⟩ = some (.slice y.lo.a y.lo.xs.length y.lo.c) ∧ w'.cell? ⟨w.heap.size + 1, 2, none⟩ = some (.int .i64 y.lo.e) ∧ w'.cell? ⟨w.heap.size + 1, 3, none⟩ = some (.bool y.hi.neg) ∧ w'.cell? ⟨w.heap.size + 1, 4, none⟩ = some (.slice y.hi.a y.hi.xs.length y.hi.c) ∧ w'.cell? ⟨w.heap.size + 1, 5, none⟩ = some (.int .i64 y.hi.e) ∧ w'.cell? ⟨w.heap.size + 1, 6, none⟩ = some (.bool y.all)) (first | with_reducible assumption | with_reducible exact keep77 (by assumption) (by assumption) | with_reducible exact set77 (by omega) (by omega) (by assumption))
    (first
      | (go_at_call 130; go_fit (r5neg_any y _ Ry.out vy); rintro e w4 ⟨z, rfl, rz, dz, vz, hk4⟩
         have RZ := Lib.hid rz
         have DZ := Lib.hid dz
         have VZ := Lib.hid vz
         clear rz dz vz)
      | (go_at_call 91; go_fit (r5add_any x z p _ (Rx.out.kp hk4) RZ.out vx VZ.out h0 h1 (HT.out.kp hk4)); rintro e w5 ⟨u, rfl, ru, du, vu, hk5⟩; have hk6 := hk4.trans hk5; obtain ⟨q0, q1, q2, q3, q4, q5, q6⟩ := hB2.kp hk6; obtain ⟨f0, f1, f2, f3, f4, f5, f6⟩ := hF2.kp hB2 hk6)
      | fail)
  have hk7 := hk3.trans hk6
  have RU := Lib.hid ru
  have DU := Lib.hid du
  have VU := Lib.hid vu
  clear hS4 hB2 hF2 ru du vu
  go_wp2_with fail
  generalize hW9 : ((((((w5.setCell _ _).setCell _ _).setCell _ _).setCell _ _).setCell _ _).setCell _ _).setCell _ _ = W9
  obtain ⟨⟨s0, s1, s2, s3, s4, s5, s6⟩, hU⟩ := stored7 (show Box7 w5 _ _ _ _ _ _ _ _ from ⟨q0, q1, q2, q3, q4, q5, q6⟩) (fun _ h => by cases h) (fun _ h => by cases h) (fun _ h => by cases h) (fun _ h => by cases h) (fun _ h => by cases h) (fun _ h => by cases h) (fun _ h => by cases h) _ _ _ _ _ _ _ hW9
  clear hW9 q0 q1 q2 q3 q4 q5 q6 f0 f1 f2 f3 f4 f5 f6
  refine bodyPost_ret (v := .agg #[.bool u.lo.neg, .slice u.lo.a u.lo.xs.length u.lo.c, .int .i64 u.lo.e, .bool u.hi.neg, .slice u.hi.a u.hi.xs.length u.hi.c, .int .i64 u.hi.e, .bool u.all]) (by simp [results, Tryz.results90, go_sem, s0, s1, s2, s3, s4, s5, s6]) rfl ?_
  exact ⟨u, rfl, hU.rdI RU.out, by rw [DU.out, DZ.out]; rfl, VU.out, hU.2.2.1 _ hk7 (by omega)⟩
set_option maxHeartbeats 4000000 in
theorem r5least_ok (x y : RD) (w : World) (hx : x.ok w) (hy : y.ok w) :
    Calls Tryz.prog 177 #[.agg #[.bool x.neg, .slice x.a x.xs.length x.c, .int .i64 x.e], .agg #[.bool y.neg, .slice y.a y.xs.length y.c, .int .i64 y.e]] w fun e w' => e = .returned (.agg #[.bool (lessR x y).neg, .slice (lessR x y).a (lessR x y).xs.length (lessR x y).c, .int .i64 (lessR x y).e]) ∧ Kp w w' := by
  go_enter Tryz.func177, Tryz.ntmps177
  go_wp2_with fail
  generalize hW : (((w.alloc _).alloc _).alloc _) = W at *
  have hk : Kp w W := hW ▸ (((Kp.refl w).alloc _).alloc _).alloc _
  have hS : (W.cell? ⟨w.heap.size, 0, none⟩ = some (.bool x.neg) ∧ W.cell? ⟨w.heap.size, 1, none⟩ = some (.slice x.a x.xs.length x.c) ∧ W.cell? ⟨w.heap.size, 2, none⟩ = some (.int .i64 x.e)) ∧ W.cell? ⟨w.heap.size + 1, 0, none⟩ = some (.bool y.neg) ∧ W.cell? ⟨w.heap.size + 1, 1, none⟩ = some (.slice y.a y.xs.length y.c) ∧ W.cell? ⟨w.heap.size + 1, 2, none⟩ = some (.int .i64 y.e) := by rw [← hW]; exact keep33 ((Kp.refl _).alloc _) (by simp)
  have hB : Box3 W (w.heap.size + 2) (.bool false) (.slice none 0 0) (.int .i64 0) := hW ▸ Box3.new3 _ _ _ _ _ _ _
  clear hW
  refine (r2cmp_rok x y _ (hx.kp hk) (hy.kp hk)).mono ?_
  rintro e w1 ⟨rfl, hk1⟩
  have hS1 := keep33 hk1 hS
  obtain ⟨q0, q1, q2, f0, f1, f2⟩ := hB.kp hk1
  have hk2 := hk.trans hk1
  clear hS hk hk1 hB
  by_cases hc : cmpZ x.iv y.iv ≤ 0
  · have hd := decide_eq_true hc
    have H := Lib.hid (show lessR x y = x by unfold lessR; rw [if_pos]; have := @cmpZ_gt x.iv y.iv; omega)
    clear hc
    go_wp2_with fail
    have hst := stored q0 q1 q2 (fun _ h => by cases h) (fun _ h => by cases h) (fun _ h => by cases h) (.bool x.neg) (.slice x.a x.xs.length x.c) (.int .i64 x.e)
    generalize (((w1.setCell _ _).setCell _ _).setCell _ _) = W2 at hst ⊢
    obtain ⟨s0, s1, s2, _, s4, s5, _, _⟩ := hst
    refine bodyPost_ret (v := .agg #[.bool x.neg, .slice x.a x.xs.length x.c, .int .i64 x.e]) (by simp [results, Tryz.results177, go_sem, s0, s1, s2]) rfl ?_
    rw [H.out]
    exact ⟨rfl, s5 _ hk2 (by omega)⟩
  have hd := decide_eq_false hc
  have H := Lib.hid (show lessR x y = y by unfold lessR; rw [if_neg]; have := @cmpZ_gt x.iv y.iv; omega)
  clear hc
  go_wp2_with fail
  have hst := stored q0 q1 q2 (fun _ h => by cases h) (fun _ h => by cases h) (fun _ h => by cases h) (.bool y.neg) (.slice y.a y.xs.length y.c) (.int .i64 y.e)
  generalize (((w1.setCell _ _).setCell _ _).setCell _ _) = W2 at hst ⊢
  obtain ⟨s0, s1, s2, _, s4, s5, _, _⟩ := hst
  refine bodyPost_ret (v := .agg #[.bool y.neg, .slice y.a y.xs.length y.c, .int .i64 y.e]) (by simp [results, Tryz.results177, go_sem, s0, s1, s2]) rfl ?_
  rw [H.out]
  exact ⟨rfl, s5 _ hk2 (by omega)⟩
set_option maxHeartbeats 4000000 in
theorem r5most_ok (x y : RD) (w : World) (hx : x.ok w) (hy : y.ok w) :
    Calls Tryz.prog 135 #[.agg #[.bool x.neg, .slice x.a x.xs.length x.c, .int .i64 x.e], .agg #[.bool y.neg, .slice y.a y.xs.length y.c, .int .i64 y.e]] w fun e w' => e = .returned (.agg #[.bool (moreR x y).neg, .slice (moreR x y).a (moreR x y).xs.length (moreR x y).c, .int .i64 (moreR x y).e]) ∧ Kp w w' := by
  go_enter Tryz.func135, Tryz.ntmps135
  go_wp2_with fail
  generalize hW : (((w.alloc _).alloc _).alloc _) = W at *
  have hk : Kp w W := hW ▸ (((Kp.refl w).alloc _).alloc _).alloc _
  have hS : (W.cell? ⟨w.heap.size, 0, none⟩ = some (.bool x.neg) ∧ W.cell? ⟨w.heap.size, 1, none⟩ = some (.slice x.a x.xs.length x.c) ∧ W.cell? ⟨w.heap.size, 2, none⟩ = some (.int .i64 x.e)) ∧ W.cell? ⟨w.heap.size + 1, 0, none⟩ = some (.bool y.neg) ∧ W.cell? ⟨w.heap.size + 1, 1, none⟩ = some (.slice y.a y.xs.length y.c) ∧ W.cell? ⟨w.heap.size + 1, 2, none⟩ = some (.int .i64 y.e) := by rw [← hW]; exact keep33 ((Kp.refl _).alloc _) (by simp)
  have hB : Box3 W (w.heap.size + 2) (.bool false) (.slice none 0 0) (.int .i64 0) := hW ▸ Box3.new3 _ _ _ _ _ _ _
  clear hW
  refine (r2cmp_rok x y _ (hx.kp hk) (hy.kp hk)).mono ?_
  rintro e w1 ⟨rfl, hk1⟩
  have hS1 := keep33 hk1 hS
  obtain ⟨q0, q1, q2, f0, f1, f2⟩ := hB.kp hk1
  have hk2 := hk.trans hk1
  clear hS hk hk1 hB
  by_cases hc : 0 ≤ cmpZ x.iv y.iv
  · have hd := decide_eq_true hc
    have H := Lib.hid (show moreR x y = x by unfold moreR; rw [if_pos]; have := @cmpZ_lt x.iv y.iv; omega)
    clear hc
    go_wp2_with fail
    have hst := stored q0 q1 q2 (fun _ h => by cases h) (fun _ h => by cases h) (fun _ h => by cases h) (.bool x.neg) (.slice x.a x.xs.length x.c) (.int .i64 x.e)
    generalize (((w1.setCell _ _).setCell _ _).setCell _ _) = W2 at hst ⊢
    obtain ⟨s0, s1, s2, _, s4, s5, _, _⟩ := hst
    refine bodyPost_ret (v := .agg #[.bool x.neg, .slice x.a x.xs.length x.c, .int .i64 x.e]) (by simp [results, Tryz.results135, go_sem, s0, s1, s2]) rfl ?_
    rw [H.out]
    exact ⟨rfl, s5 _ hk2 (by omega)⟩
  have hd := decide_eq_false hc
  have H := Lib.hid (show moreR x y = y by unfold moreR; rw [if_neg]; have := @cmpZ_lt x.iv y.iv; omega)
  clear hc
  go_wp2_with fail
  have hst := stored q0 q1 q2 (fun _ h => by cases h) (fun _ h => by cases h) (fun _ h => by cases h) (.bool y.neg) (.slice y.a y.xs.length y.c) (.int .i64 y.e)
  generalize (((w1.setCell _ _).setCell _ _).setCell _ _) = W2 at hst ⊢
  obtain ⟨s0, s1, s2, _, s4, s5, _, _⟩ := hst
  refine bodyPost_ret (v := .agg #[.bool y.neg, .slice y.a y.xs.length y.c, .int .i64 y.e]) (by simp [results, Tryz.results135, go_sem, s0, s1, s2]) rfl ?_
  rw [H.out]
  exact ⟨rfl, s5 _ hk2 (by omega)⟩
theorem maxD_neg {lo hi : Dy} (hl : lo.ok) (hh : hi.ok) (h : lo.iv ≤ hi.iv) : maxD lo.opp hi = maxD lo.absv hi.absv := by
  have o1 := Dy.opp_ok2 hl
  have a1 := Dy.absv_ok hl
  have a2 := Dy.absv_ok hh
  have e1 : lo.opp.iv = -lo.iv := Dy.opp_iv _
  have e2 : lo.absv.iv = (lo.iv.natAbs : Int) := Dy.absv_iv
  have e3 : hi.absv.iv = (hi.iv.natAbs : Int) := Dy.absv_iv
  have ok1 : (maxD lo.opp hi).ok := by unfold maxD; split <;> assumption
  have ok2 : (maxD lo.absv hi.absv).ok := by unfold maxD; split <;> assumption
  refine Dy.iv_inj ok1 ok2 ?_
  unfold maxD
  split <;> split <;> omega
set_option maxRecDepth 100000 in
set_option maxHeartbeats 8000000 in
theorem r5mag_any (x : RI) (w : World) (ox : x.ok w) :
    Calls Tryz.prog 93 #[.agg #[.bool x.lo.neg, .slice x.lo.a x.lo.xs.length x.lo.c, .int .i64 x.lo.e, .bool x.hi.neg, .slice x.hi.a x.hi.xs.length x.hi.c, .int .i64 x.hi.e, .bool x.all]] w (NumOut w (magP x.pl)) := by
  have ha := ox.2.1
  have HP := Lib.hid (show magP x.pl = maxD x.lo.dy.opp x.hi.dy by unfold magP; rw [if_neg (by show ¬ x.all = true; rw [ha]; decide), maxD_neg (rdok_dy ox.lo) (rdok_dy ox.hi) ox.parts.2.2]; rfl)
  clear ha
  go_enter Tryz.func93, Tryz.ntmps93
  go_wp2_with fail
  generalize hW : ((w.alloc _).alloc _) = W at *
  have hk : Kp w W := hW ▸ ((Kp.refl w).alloc _).alloc _
  have hS : W.cell? ⟨w.heap.size, 0, none⟩ = some (.bool x.lo.neg) ∧ W.cell? ⟨w.heap.size, 1, none⟩ = some (.slice x.lo.a x.lo.xs.length x.lo.c) ∧ W.cell? ⟨w.heap.size, 2, none⟩ = some (.int .i64 x.lo.e) ∧ W.cell? ⟨w.heap.size, 3, none⟩ = some (.bool x.hi.neg) ∧ W.cell? ⟨w.heap.size, 4, none⟩ = some (.slice x.hi.a x.hi.xs.length x.hi.c) ∧ W.cell? ⟨w.heap.size, 5, none⟩ = some (.int .i64 x.hi.e) ∧ W.cell? ⟨w.heap.size, 6, none⟩ = some (.bool x.all) := by rw [← hW]; simp
  have hV : Box3 W (w.heap.size + 1) (.bool false) (.slice none 0 0) (.int .i64 0) := by rw [← hW]; exact Box3.new2 _ _ _ _ _ _
  clear hW
  have kd := (Kp.refl W).drew
  have hB2 := hV.kp kd
  have hk3 := hk.trans kd
  have Ox := Lib.hid (ox.kp hk3)
  have hS4 := keep7 kd hS
  clear hV hS kd hk
  go_region_held3 (fun w' => w'.cell? ⟨w.heap.size, 0, none⟩ = some (.bool x.lo.neg) ∧ w'.cell? ⟨w.heap.size, 1, none⟩ = some (.slice x.lo.a x.lo.xs.length x.lo.c) ∧ w'.cell? ⟨w.heap.size, 2, none⟩ = some (.int .i64 x.lo.e) ∧ w'.cell? ⟨w.heap.size, 3, none⟩ = some (.bool x.hi.neg) ∧ w'.cell? ⟨w.heap.size, 4, none⟩ = some (.slice x.hi.a x.hi.xs.length x.hi.c) ∧ w'.cell? ⟨w.heap.size, 5, none⟩ = some (.int .i64 x.hi.e) ∧ w'.cell? ⟨w.heap.size, 6, none⟩ = some (.bool x.all)) (first | with_reducible assumption | with_reducible exact keep7 (by assumption) (by assumption) | with_reducible exact set7by3 (by omega) (by assumption))
    (first
      | (go_at_call 46; go_fit (r2Neg_ok x.lo _ Ox.out.lo); rintro e w4 ⟨z1, rfl, r1, d1, v1, hk4⟩
         have O1 := Lib.hid (show z1.ok w4 from ⟨r1, v1 (Dy.opp_ok2 (rdok_dy Ox.out.lo))⟩)
         have D1 := Lib.hid d1
         clear r1 d1 v1)
      | (go_at_call 135; go_fit (r5most_ok z1 x.hi _ O1.out (Ox.out.hi.kp hk4)); rintro e w6 ⟨rfl, hk6⟩; have hk7 := hk4.trans hk6; obtain ⟨q0, q1, q2, f0, f1, f2⟩ := hB2.kp hk7)
      | fail)
  have hk8 := hk3.trans hk7
  have OM := Lib.hid (moreR_ok (O1.out.kp hk6) ((Ox.out.hi.kp hk4).kp hk6))
  have DM := Lib.hid (moreR_dy z1 x.hi)
  clear hS4 hB2
  generalize moreR z1 x.hi = Z at *
  have hst := stored q0 q1 q2 (fun _ h => by cases h) (fun _ h => by cases h) (fun _ h => by cases h) (.bool Z.neg) (.slice Z.a Z.xs.length Z.c) (.int .i64 Z.e)
  go_wp2_with fail
  generalize (((w6.setCell _ _).setCell _ _).setCell _ _) = W9 at hst ⊢
  obtain ⟨s0, s1, s2, _, s4, s5, _, _⟩ := hst
  refine bodyPost_ret (v := .agg #[.bool Z.neg, .slice Z.a Z.xs.length Z.c, .int .i64 Z.e]) (by simp [results, Tryz.results93, go_sem, s0, s1, s2]) rfl ?_
  rw [HP.out, ← D1.out]
  exact ⟨Z, rfl, ⟨s4 _ _ OM.out.1.1, OM.out.1.2⟩, DM.out, fun _ => OM.out.2, s5 _ hk8 (by omega)⟩
end Go.Proofs.YtpocjagbhiahdaaGreatDoor
