/-
  Walks: the third reference's Div.
-/
import Derived.Test.YtpocjagbhiahdaaGreatDoorMR3C
import Derived.Test.YtpocjagbhiahdaaGreatDoorMR7D
import Derived.Test.YtpocjagbhiahdaaGreatDoorMKnuE
namespace Go.Proofs.YtpocjagbhiahdaaGreatDoor
open Go.RowKit

theorem quo_small {m n p : Nat} (hm : m ≠ 0) (hn : n ≠ 0) {K : Nat} (hK : p + 2 + bits n ≤ bits m + K) : p < bits (m * 2 ^ K / n) := by
  have := bits_quo hn (p + 2) (a := m * 2 ^ K) (by rw [bits_mul_pow hm]; omega) (by omega)
  omega
set_option maxHeartbeats 4000000 in
set_option maxRecDepth 100000 in
theorem r3div_any (x y : RD) (p : Int) (up : Bool) (w : World) (hx : x.rd w) (hy : y.rd w) :
    Calls Tryz.prog 47 #[.agg #[.bool x.neg, .slice x.a x.xs.length x.c, .int .i64 x.e], .agg #[.bool y.neg, .slice y.a y.xs.length y.c, .int .i64 y.e], .int .i64 p, .bool up] w (NumE w (divB x y p up).1 (divB x y p up).2) := by
  obtain ⟨D, hD⟩ : ∃ D, D = divB x y p up := ⟨_, rfl⟩
  have HD := Lib.hid hD
  rw [← hD]
  clear hD
  go_enter Tryz.func47, Tryz.ntmps47
  go_wp2_with fail
  generalize hW : (((w.alloc _).alloc _).alloc _) = W at *
  have hk : Kp w W := hW ▸ (((Kp.refl w).alloc _).alloc _).alloc _
  have hS : W.cell? ⟨w.heap.size, 0, none⟩ = some (.bool x.neg) ∧ W.cell? ⟨w.heap.size, 1, none⟩ = some (.slice x.a x.xs.length x.c) ∧ W.cell? ⟨w.heap.size, 2, none⟩ = some (.int .i64 x.e) ∧ W.cell? ⟨w.heap.size + 1, 0, none⟩ = some (.bool y.neg) ∧ W.cell? ⟨w.heap.size + 1, 1, none⟩ = some (.slice y.a y.xs.length y.c) ∧ W.cell? ⟨w.heap.size + 1, 2, none⟩ = some (.int .i64 y.e) := by rw [← hW]; exact keep6 ((Kp.refl _).alloc _) (by simp)
  have hB : Box3 W (w.heap.size + 2) (.bool false) (.slice none 0 0) (.int .i64 0) := hW ▸ Box3.new3 _ _ _ _ _ _ _
  clear hW
  refine (r3fault_any x y p _ (hx.kp hk) (hy.kp hk)).mono ?_
  rintro e w1 ⟨rfl, hk1⟩
  have hS1 := keepRR hk1 hS
  have hB1 := hB.kp hk1
  have hk2 := hk.trans hk1
  clear hS hB hk hk1
  by_cases h0 : fltB p [x, y] = 0
  rotate_left
  · have hz2 : (fltB p [x, y] != 0) = true := by simpa using h0
    have HD2 := Lib.hid (show D = (.zero, fltB p [x, y]) by rw [HD.out]; unfold divB; rw [if_neg h0])
    clear h0 hS1
    obtain ⟨q0, q1, q2, f0, f1, f2⟩ := hB1
    go_wp2_with fail
    have hst := stored q0 q1 q2 (fun _ h => by cases h) (fun _ h => by cases h) (fun _ h => by cases h) (.bool false) (.slice none 0 0) (.int .i64 0)
    generalize (((w1.setCell _ _).setCell _ _).setCell _ _) = W9 at hst ⊢
    obtain ⟨s0, s1, s2, _, s4, s5, _, _⟩ := hst
    refine bodyPost_ret (v := .tuple #[.agg #[.bool false, .slice none 0 0, .int .i64 0], .int .i64 (fltB p [x, y])]) (by simp [results, Tryz.results47, go_sem, s0, s1, s2]) rfl ?_
    rw [HD2.out]
    exact numE_zero rfl (s5 _ hk2 (by omega))
  obtain ⟨hv, hp0, hp1⟩ := fltB_zero.1 h0
  obtain ⟨q, rfl⟩ := Int.eq_ofNat_of_zero_le (show 0 ≤ p by omega)
  have hxo : x.ok w1 := ⟨hx.kp hk2, by simpa using (List.all_eq_true.1 hv) x (by simp)⟩
  have hyo : y.ok w1 := ⟨hy.kp hk2, by simpa using (List.all_eq_true.1 hv) y (by simp)⟩
  have zx := rdok_zero hxo
  have zy := rdok_zero hyo
  rw [h0]
  by_cases hy0 : y.xs.length = 0
  · have hz : ((y.xs.length : Int) == 0) = true := beq_iff_eq.2 (by omega)
    have HD3 := Lib.hid (show D = (.zero, 10) by rw [HD.out]; unfold divB; rw [if_pos h0, if_pos hy0])
    obtain ⟨q0, q1, q2, f0, f1, f2⟩ := hB1
    obtain ⟨s0, s1, s2, t0, t1, t2⟩ := hS1
    clear hy0 h0 zx zy
    go_wp2_with fail
    have hst := stored q0 q1 q2 (fun _ h => by cases h) (fun _ h => by cases h) (fun _ h => by cases h) (.bool false) (.slice none 0 0) (.int .i64 0)
    generalize (((w1.setCell _ _).setCell _ _).setCell _ _) = W9 at hst ⊢
    obtain ⟨s0, s1, s2, _, s4, s5, _, _⟩ := hst
    refine bodyPost_ret (v := .tuple #[.agg #[.bool false, .slice none 0 0, .int .i64 0], .int .i64 10]) (by simp [results, Tryz.results47, go_sem, s0, s1, s2]) rfl ?_
    rw [HD3.out]
    exact numE_zero rfl (s5 _ hk2 (by omega))
  have hz : ((y.xs.length : Int) == 0) = false := beq_eq_false_iff_ne.2 (by omega)
  by_cases hx0 : x.xs.length = 0
  · have hz2 : ((x.xs.length : Int) == 0) = true := beq_iff_eq.2 (by omega)
    have HD3 := Lib.hid (show D = (.zero, 0) by rw [HD.out]; unfold divB; rw [if_pos h0, if_neg hy0, if_pos hx0])
    obtain ⟨q0, q1, q2, f0, f1, f2⟩ := hB1
    obtain ⟨s0, s1, s2, t0, t1, t2⟩ := hS1
    clear hy0 h0 hx0 zx zy
    go_wp2_with fail
    have hst := stored q0 q1 q2 (fun _ h => by cases h) (fun _ h => by cases h) (fun _ h => by cases h) (.bool false) (.slice none 0 0) (.int .i64 0)
    generalize (((w1.setCell _ _).setCell _ _).setCell _ _) = W9 at hst ⊢
    obtain ⟨s0, s1, s2, _, s4, s5, _, _⟩ := hst
    refine bodyPost_ret (v := .tuple #[.agg #[.bool false, .slice none 0 0, .int .i64 0], .int .i64 0]) (by simp [results, Tryz.results47, go_sem, s0, s1, s2]) rfl ?_
    rw [HD3.out]
    exact numE_zero rfl (s5 _ hk2 (by omega))
  have hz2 : ((x.xs.length : Int) == 0) = false := beq_eq_false_iff_ne.2 (by omega)
  have hxm : val x.xs ≠ 0 := fun h => hx0 (zx.2 h)
  have hym : val y.xs ≠ 0 := fun h => hy0 (zy.2 h)
  have HD2 := Lib.hid (show D = rndE (quoR (x.neg != y.neg) (val x.xs) (val y.xs) (x.e - y.e) q up (quoK x y q 2)) by
    rw [HD.out]; unfold divB; rw [if_pos h0, if_neg hy0, if_neg hx0, Int.toNat_natCast])
  have hbx : bits (val x.xs) ≤ 4096 := dok_bits (rdok_dy hxo)
  have hby : bits (val y.xs) ≤ 4096 := dok_bits (rdok_dy hyo)
  obtain ⟨K, hK⟩ : ∃ K, K = quoK x y q 2 := ⟨_, rfl⟩
  have hKi : (K : Int) = max 0 ((q : Int) + 2 + bits (val y.xs) - bits (val x.xs)) := by rw [hK]; unfold quoK; omega
  have HK := Lib.hid hKi
  rw [← hK] at HD2
  have Hbig := Lib.hid (quo_small (p := q) (K := K) hxm hym (by omega))
  clear hy0 hx0 h0 hv HD hK hKi zx zy
  obtain ⟨s0, s1, s2, t0, t1, t2⟩ := hS1
  have HBy := Lib.hid (fun n => show Calls Tryz.prog 100 #[.slice y.a y.xs.length y.c] (w1.drewN n) (fun e w' => e = .returned (.int .i64 (bits (val y.xs) : Nat)) ∧ w' = w1.drewN n) from
    (r1bits_any y.a y.xs y.c (w1.drewN n) (hyo.1.1.kp ((Kp.refl w1).drewN n)) hyo.1.2.2.2.1).mono fun e w' ⟨h1, h2⟩ => ⟨h1, h2.symm⟩)
  have HBx := Lib.hid (fun n => show Calls Tryz.prog 100 #[.slice x.a x.xs.length x.c] (w1.drewN n) (fun e w' => e = .returned (.int .i64 (bits (val x.xs) : Nat)) ∧ w' = w1.drewN n) from
    (r1bits_any x.a x.xs x.c (w1.drewN n) (hxo.1.1.kp ((Kp.refl w1).drewN n)) hxo.1.2.2.2.1).mono fun e w' ⟨h1, h2⟩ => ⟨h1, h2.symm⟩)
  have e1 : IntKind.i64.wrap ((q : Int) + 2) = (q : Int) + 2 := IntWalk.i64_in _ (by omega)
  have e2 : IntKind.i64.wrap ((q : Int) + 2 + (bits (val y.xs) : Int)) = (q : Int) + 2 + (bits (val y.xs) : Int) := IntWalk.i64_in _ (by omega)
  have e3 : IntKind.i64.wrap ((q : Int) + 2 + (bits (val y.xs) : Int) - (bits (val x.xs) : Int)) = (q : Int) + 2 + (bits (val y.xs) : Int) - (bits (val x.xs) : Int) := IntWalk.i64_in _ (by omega)
  go_wp2_with fail
  go_quiet ((first | (go_at_call 100; with_reducible exact Calls.quiet_of_same (HBy.out _)) | (go_at_call 100; with_reducible exact Calls.quiet_of_same (HBx.out _))))
  clear e1 e2 e3
  rw [← HK.out]
  have hK2 : K ≤ 4611 := by have := HK.out; omega
  have hkd := (Kp.refl w1).drewN nq
  have hx2 := hxo.kp hkd
  have hy2 := hyo.kp hkd
  have hB2 := hB1.kp hkd
  have hS2 : (w1.drewN nq).cell? ⟨w.heap.size, 0, none⟩ = some (.bool x.neg) ∧ (w1.drewN nq).cell? ⟨w.heap.size, 1, none⟩ = some (.slice x.a x.xs.length x.c) ∧ (w1.drewN nq).cell? ⟨w.heap.size, 2, none⟩ = some (.int .i64 x.e) ∧ (w1.drewN nq).cell? ⟨w.heap.size + 1, 0, none⟩ = some (.bool y.neg) ∧ (w1.drewN nq).cell? ⟨w.heap.size + 1, 1, none⟩ = some (.slice y.a y.xs.length y.c) ∧ (w1.drewN nq).cell? ⟨w.heap.size + 1, 2, none⟩ = some (.int .i64 y.e) := keepRR hkd ⟨s0, s1, s2, t0, t1, t2⟩
  have hk3 := hk2.trans hkd
  clear hkd hk2 hB1 hxo hyo s0 s1 s2 t0 t1 t2 HBx HBy
  generalize w1.drewN nq = W1 at *
  have hlx := rdok_len hx2
  have hly := rdok_len hy2
  have hex := rdok_e hx2
  have hey := rdok_e hy2
  have hxd := hx2.drew
  have hyd := hy2.drew
  have hSd := keepRR (Kp.refl W1).drew hS2
  have hBd := hB2.kp (Kp.refl W1).drew
  have hkd := hk3.drew
  clear hx2 hy2 hB2 hS2 hk3
  have Hn := Lib.hid (show (limbs (val x.xs * 2 ^ K)).length ≤ 300 by
    refine limbs_of_bits ?_
    rw [bits_mul_pow hxm]; omega)
  have Hsh := Lib.hid (r1shl_any x.a x.xs x.c K W1.drew hxd.1.1 hxd.1.2.1 hxd.1.2.2.1 (by omega) (by omega))
  have Hdm := Lib.hid (fun (W : World) (a : Option Addr) (c : Nat) (hr : Rd W a (limbs (val x.xs * 2 ^ K))) (hy : Rd W y.a y.xs) => r1divmod_any a y.a (limbs (val x.xs * 2 ^ K)) y.xs c y.c W hr hy (by have := Hn.out; omega) (by omega) hyd.1.2.1 hyd.1.2.2.1 hym)
  rw [val_limbs] at Hdm
  have hyr : Rd W1.drew y.a y.xs := hyd.1.1
  go_wp2_with fail
  go_region_held3 (fun w' => w'.cell? ⟨w.heap.size, 0, none⟩ = some (.bool x.neg) ∧ w'.cell? ⟨w.heap.size, 1, none⟩ = some (.slice x.a x.xs.length x.c) ∧ w'.cell? ⟨w.heap.size, 2, none⟩ = some (.int .i64 x.e) ∧ w'.cell? ⟨w.heap.size + 1, 0, none⟩ = some (.bool y.neg) ∧ w'.cell? ⟨w.heap.size + 1, 1, none⟩ = some (.slice y.a y.xs.length y.c) ∧ w'.cell? ⟨w.heap.size + 1, 2, none⟩ = some (.int .i64 y.e)) (first | with_reducible assumption | with_reducible exact keepRR (by assumption) (by assumption))
    (first
      | (go_at_call 102; (with_reducible refine Hsh.out.mono ?_); rintro e w6 ⟨a6, c6, rfl, l6, m6, r6, hk7⟩)
      | (go_at_call 101; (with_reducible refine (Hdm.out _ a6 c6 r6 (hyr.kp hk7)).mono ?_); rintro e w7 ⟨a7, c7, a8, c8, rfl, l7, m7, l8, m8, r7, r8, hk8⟩)
      | fail)
  have hk9 := (hkd.trans hk7).trans hk8
  have hB7 := (hBd.kp hk7).kp hk8
  have hS7 := keepRR (hk7.trans hk8) hSd
  have HQ := Lib.hid (Nat.le_trans (limbs_length_mono (Nat.div_le_self (val x.xs * 2 ^ K) (val y.xs))) Hn.out)
  have HR := Lib.hid (Nat.le_trans (limbs_length_mono (Nat.mod_le (val x.xs * 2 ^ K) (val y.xs))) Hn.out)
  have HD4 := Lib.hid (show D = rndE (rndS (x.neg != y.neg) (val x.xs * 2 ^ K / val y.xs) (x.e - y.e - K) (decide (0 < bits (val x.xs * 2 ^ K % val y.xs))) q up) from HD2.out)
  clear HD2 Hsh Hdm Hn hkd hk7 hk8 hBd hSd hxd hyd r6 l6 m6 hyr
  generalize val x.xs * 2 ^ K / val y.xs = Q at *
  generalize val x.xs * 2 ^ K % val y.xs = R at *
  have hexp : IntKind.i64.wrap (IntKind.i64.wrap (x.e - y.e) - (K : Int)) = x.e - y.e - K := by
    rw [IntWalk.i64_in (x.e - y.e) (by omega), IntWalk.i64_in _ (by omega)]
  have Hex := Lib.hid hexp
  clear hexp
  have HB := Lib.hid (r1bits_any a8 (limbs R) c8)
  have Hct := Lib.hid (fun (W : World) (hr : Rd W a7 (limbs Q)) => r3cut_any (x.neg != y.neg) (decide (0 < bits R)) a7 (limbs Q) c7 (IntKind.i64.wrap (IntKind.i64.wrap (x.e - y.e) - (K : Int))) q up W hr l7 m7 (Nat.le_trans HQ.out (by decide)) (by rw [Hex.out]; omega) (by rw [Hex.out]; omega) (by omega) (by omega) (fun _ => by rw [val_limbs]; exact Hbig.out) (fun h => by rw [val_limbs] at h; have := Hbig.out; rw [h, bits_zero] at this; omega))
  rw [val_limbs, Hex.out, ← HD4.out] at Hct
  have hk9d := hk9.drew
  have r7d := r7.kp (Kp.refl w7).drew
  have r8d := r8.kp (Kp.refl w7).drew
  have hB7d := hB7.kp (Kp.refl w7).drew
  have hS7d := keepRR (Kp.refl w7).drew hS7
  clear hk9 r7 r8 hB7 hS7
  go_wp2_with fail
  go_region_held3 (fun w' => w'.cell? ⟨w.heap.size, 0, none⟩ = some (.bool x.neg) ∧ w'.cell? ⟨w.heap.size, 1, none⟩ = some (.slice x.a x.xs.length x.c) ∧ w'.cell? ⟨w.heap.size, 2, none⟩ = some (.int .i64 x.e) ∧ w'.cell? ⟨w.heap.size + 1, 0, none⟩ = some (.bool y.neg) ∧ w'.cell? ⟨w.heap.size + 1, 1, none⟩ = some (.slice y.a y.xs.length y.c) ∧ w'.cell? ⟨w.heap.size + 1, 2, none⟩ = some (.int .i64 y.e)) (first | with_reducible assumption | with_reducible exact keepRR (by assumption) (by assumption) | with_reducible exact setRR (by omega) (by omega) (by assumption))
    (first
      | (go_at_call 100; refine (HB.out _ r8d (by have := HR.out; omega)).mono ?_; rw [val_limbs]; rintro e w8 ⟨rfl, rfl⟩)
      | (go_at_call 103; rw [Hex.out]; refine (Hct.out _ r7d).mono ?_; rintro e w9 ⟨z, rfl, hzr, hzd, hzv, hk9⟩; obtain ⟨q0, q1, q2, f0, f1, f2⟩ := hB7d.kp hk9)
      | fail)
  have hkk := hk9d.trans hk9
  clear hS7d hB7d hk9d hk9 r7d r8d Hct HB
  have hst := stored q0 q1 q2 (fun _ h => by cases h) (fun _ h => by cases h) (fun _ h => by cases h) (.bool z.neg) (.slice z.a z.xs.length z.c) (.int .i64 z.e)
  go_wp2_with fail
  generalize (((w9.setCell _ _).setCell _ _).setCell _ _) = W2 at hst ⊢
  obtain ⟨s0, s1, s2, _, s4, s5, _, _⟩ := hst
  refine bodyPost_ret (v := .tuple #[.agg #[.bool z.neg, .slice z.a z.xs.length z.c, .int .i64 z.e], .int .i64 D.2]) (by simp [results, Tryz.results47, go_sem, s0, s1, s2]) rfl ?_
  exact ⟨z, rfl, ⟨s4 _ _ hzr.1, hzr.2⟩, hzd, hzv, s5 _ hkk (by omega)⟩
end Go.Proofs.YtpocjagbhiahdaaGreatDoor
