/-
  Walks: dyadic.Mul of valid numbers.
-/
import Derived.Test.YtkkiinbgjjjcoaaDoorMRoMul
namespace Go.Proofs.YtkkiinbgjjjcoaaDoor
open Go.RowKit

/-- the exact product -/
def prodD (d f : Dy) : Dy := canon (d.neg != f.neg) (d.m * f.m) (d.e + f.e)
theorem chk_zero_dy : chk Dy.zero = (.zero, 0) := chk_of_ok Dy.ok_zero
theorem odd_mul {a b : Nat} (ha : a % 2 = 1) (hb : b % 2 = 1) : a * b % 2 = 1 := by rw [Nat.mul_mod, ha, hb]
theorem bits_mul_ge {a b : Nat} (ha : a ≠ 0) (hb : b ≠ 0) : bits a + bits b ≤ bits (a * b) + 1 := by
  have h1 := two_pow_le_of_bits ha
  have h2 := two_pow_le_of_bits hb
  have h3 := bits_pos ha
  have h4 := bits_pos hb
  have h5 : bits a - 1 + (bits b - 1) < bits (a * b) := lt_bits.2 (by rw [Nat.pow_add]; exact Nat.mul_le_mul h1 h2)
  omega
theorem ok_odd {d : Dy} (h : d.ok) (h0 : d.m ≠ 0) : d.m % 2 = 1 := by
  rcases h with ⟨h1, _⟩ | ⟨h1, _⟩
  · exact absurd h1 h0
  · exact h1
theorem prod_big {d f : Dy} (hd : d.ok) (hf : f.ok) (hd0 : d.m ≠ 0) (hf0 : f.m ≠ 0) (h : 4096 < bits d.m + bits f.m - 1) : chk (prodD d f) = (.zero, 9) := by
  have ho := odd_mul (ok_odd hd hd0) (ok_odd hf hf0)
  have hb := bits_mul_ge hd0 hf0
  unfold chk prodD
  rw [inrB_canon ho (by omega)]; rfl
set_option maxRecDepth 100000 in
set_option maxHeartbeats 8000000 in
theorem Mul_rd (x y : RD) (w : World) (hx : x.ok w) (hy : y.ok w) (hT : Tab w) :
    Calls Tryd.prog 28 #[.agg #[.bool x.neg, .slice x.a x.xs.length x.c, .int .i64 x.e], .agg #[.bool y.neg, .slice y.a y.xs.length y.c, .int .i64 y.e]] w (NumE w (chk (prodD x.dy y.dy)).1 (chk (prodD x.dy y.dy)).2) := by
  obtain ⟨D, hD⟩ : ∃ D, D = chk (prodD x.dy y.dy) := ⟨_, rfl⟩
  have HD0 := Lib.hid hD
  rw [← hD]
  clear hD
  go_enter Tryd.func28, Tryd.ntmps28
  go_wp2_with fail
  generalize hW : (((w.alloc _).alloc _).alloc _) = W at *
  have hk : Kp w W := hW ▸ (((Kp.refl w).alloc _).alloc _).alloc _
  have hS : W.cell? ⟨w.heap.size, 0, none⟩ = some (.bool x.neg) ∧ W.cell? ⟨w.heap.size, 1, none⟩ = some (.slice x.a x.xs.length x.c) ∧ W.cell? ⟨w.heap.size, 2, none⟩ = some (.int .i64 x.e) ∧ W.cell? ⟨w.heap.size + 1, 0, none⟩ = some (.bool y.neg) ∧ W.cell? ⟨w.heap.size + 1, 1, none⟩ = some (.slice y.a y.xs.length y.c) ∧ W.cell? ⟨w.heap.size + 1, 2, none⟩ = some (.int .i64 y.e) := by rw [← hW]; exact keep6 ((Kp.refl _).alloc _) (by simp)
  have hB : Box3 W (w.heap.size + 2) (.bool false) (.slice none 0 0) (.int .i64 0) := hW ▸ Box3.new3 _ _ _ _ _ _ _
  clear hW
  refine (Valid_rok x _ (hx.kp hk)).mono ?_
  rintro e w1 ⟨rfl, hk1⟩
  have hS1 := keepRR hk1 hS
  have hB1 := hB.kp hk1
  have hk2 := hk.trans hk1
  clear hS hk hk1 hB
  obtain ⟨s0, s1, s2, t0, t1, t2⟩ := id hS1
  go_wp2_with fail
  refine (Valid_rok y _ (hy.kp hk2)).mono ?_
  rintro e w2 ⟨rfl, hk3⟩
  clear s0 s1 s2 t0 t1 t2
  have hS2 := keepRR hk3 hS1
  have hB2 := hB1.kp hk3
  have hk4 := hk2.trans hk3
  have hx2 := hx.kp hk4
  have hy2 := hy.kp hk4
  have hT2 := hT.kp hk4
  clear hS1 hB1 hk2 hk3
  by_cases hx0 : x.xs.length = 0
  · have hz : ((x.xs.length : Int) == 0) = true := beq_iff_eq.2 (by omega)
    have HD := Lib.hid (show D = (.zero, 0) by
      rw [HD0.out]; unfold prodD; rw [(rdok_zero hx2).1 hx0, Nat.zero_mul, canon_zero]; exact chk_zero_dy)
    obtain ⟨s0, s1, s2, t0, t1, t2⟩ := hS2
    clear hx0
    obtain ⟨q0, q1, q2, f0, f1, f2⟩ := hB2
    go_wp2_with fail
    have hst := stored q0 q1 q2 (fun _ h => by cases h) (fun _ h => by cases h) (fun _ h => by cases h) (.bool false) (.slice none 0 0) (.int .i64 0)
    generalize (((w2.setCell _ _).setCell _ _).setCell _ _) = W9 at hst ⊢
    obtain ⟨s0, s1, s2, _, s4, s5, _, _⟩ := hst
    refine bodyPost_ret (v := .tuple #[.agg #[.bool false, .slice none 0 0, .int .i64 0], .int .i64 0]) (by simp [results, Tryd.results28, go_sem, s0, s1, s2]) rfl ?_
    rw [HD.out]
    exact numE_zero rfl (s5 _ hk4 (by omega))
  · have hz : ((x.xs.length : Int) == 0) = false := beq_eq_false_iff_ne.2 (by omega)
    have hxm := Lib.hid (show x.dy.m ≠ 0 from fun h => hx0 ((rdok_zero hx2).2 h))
    clear hx0
    by_cases hy0 : y.xs.length = 0
    · have hz2 : ((y.xs.length : Int) == 0) = true := beq_iff_eq.2 (by omega)
      have HD := Lib.hid (show D = (.zero, 0) by
        rw [HD0.out]; unfold prodD; rw [(rdok_zero hy2).1 hy0, Nat.mul_zero, canon_zero]; exact chk_zero_dy)
      obtain ⟨s0, s1, s2, t0, t1, t2⟩ := hS2
      clear hy0
      obtain ⟨q0, q1, q2, f0, f1, f2⟩ := hB2
      go_wp2_with fail
      have hst := stored q0 q1 q2 (fun _ h => by cases h) (fun _ h => by cases h) (fun _ h => by cases h) (.bool false) (.slice none 0 0) (.int .i64 0)
      generalize (((w2.setCell _ _).setCell _ _).setCell _ _) = W9 at hst ⊢
      obtain ⟨s0, s1, s2, _, s4, s5, _, _⟩ := hst
      refine bodyPost_ret (v := .tuple #[.agg #[.bool false, .slice none 0 0, .int .i64 0], .int .i64 0]) (by simp [results, Tryd.results28, go_sem, s0, s1, s2]) rfl ?_
      rw [HD.out]
      exact numE_zero rfl (s5 _ hk4 (by omega))
    · have hz2 : ((y.xs.length : Int) == 0) = false := beq_eq_false_iff_ne.2 (by omega)
      have hym := Lib.hid (show y.dy.m ≠ 0 from fun h => hy0 ((rdok_zero hy2).2 h))
      clear hy0
      obtain ⟨s0, s1, s2, t0, t1, t2⟩ := id hS2
      go_wp2_with fail
      clear s0 s1 s2 t0 t1 t2
      have hS3 := keepRR (Kp.refl w2).drew hS2
      have hB3 := hB2.kp (Kp.refl w2).drew
      have hk5 := hk4.drew
      have hx3 := hx2.drew
      have hy3 := hy2.drew
      have hT3 := hT2.kp (Kp.refl w2).drew
      clear hS2 hB2 hk4 hx2 hy2 hT2
      have hbx : bits (val x.xs) ≤ 4096 := dok_bits (rdok_dy hx3)
      have hby : bits (val y.xs) ≤ 4096 := dok_bits (rdok_dy hy3)
      have Hsx := Lib.hid (size_any x.a x.xs x.c w2.drew hx3.1.1 hx3.1.2.1 hx3.1.2.2.1 hx3.1.2.2.2.1)
      have Hsy := Lib.hid (size_any y.a y.xs y.c w2.drew hy3.1.1 hy3.1.2.1 hy3.1.2.2.1 hy3.1.2.2.2.1)
      go_region_held3 (fun w' => w'.cell? ⟨w.heap.size, 0, none⟩ = some (.bool x.neg) ∧ w'.cell? ⟨w.heap.size, 1, none⟩ = some (.slice x.a x.xs.length x.c) ∧ w'.cell? ⟨w.heap.size, 2, none⟩ = some (.int .i64 x.e) ∧ w'.cell? ⟨w.heap.size + 1, 0, none⟩ = some (.bool y.neg) ∧ w'.cell? ⟨w.heap.size + 1, 1, none⟩ = some (.slice y.a y.xs.length y.c) ∧ w'.cell? ⟨w.heap.size + 1, 2, none⟩ = some (.int .i64 y.e)) (first | with_reducible assumption | with_reducible exact keepRR (by assumption) (by assumption))
        (first
          | (go_at_call 42; (with_reducible refine Hsx.out.mono ?_); rintro e w4 ⟨rfl, rfl⟩)
          | (go_at_call 42; (with_reducible refine Hsy.out.mono ?_); rintro e w5 ⟨rfl, rfl⟩)
          | fail)
      have hw1 : IntKind.i64.wrap ((bits (val x.xs) : Int) + (bits (val y.xs) : Int)) = (bits (val x.xs) : Int) + (bits (val y.xs) : Int) := IntWalk.i64_in _ (by omega)
      have hw2 : IntKind.i64.wrap ((bits (val x.xs) : Int) + (bits (val y.xs) : Int) - 1) = (bits (val x.xs) : Int) + (bits (val y.xs) : Int) - 1 := IntWalk.i64_in _ (by omega)
      rw [hw1, hw2]
      clear hw1 hw2 Hsx Hsy
      generalize w2.drew = V at *
      by_cases hbig : (4096 : Int) < (bits (val x.xs) : Int) + (bits (val y.xs) : Int) - 1
      · have HD := Lib.hid (show D = (.zero, 9) by
          rw [HD0.out]; exact prod_big (rdok_dy hx3) (rdok_dy hy3) hxm.out hym.out (show 4096 < bits (val x.xs) + bits (val y.xs) - 1 by omega))
        clear hS3
        obtain ⟨q0, q1, q2, f0, f1, f2⟩ := hB3
        go_wp2_with fail
        have hst := stored q0 q1 q2 (fun _ h => by cases h) (fun _ h => by cases h) (fun _ h => by cases h) (.bool false) (.slice none 0 0) (.int .i64 0)
        generalize (((V.setCell _ _).setCell _ _).setCell _ _) = W9 at hst ⊢
        obtain ⟨s0, s1, s2, _, s4, s5, _, _⟩ := hst
        refine bodyPost_ret (v := .tuple #[.agg #[.bool false, .slice none 0 0, .int .i64 0], .int .i64 9]) (by simp [results, Tryd.results28, go_sem, s0, s1, s2]) rfl ?_
        rw [HD.out]
        exact numE_zero rfl (s5 _ hk5 (by omega))
      · obtain ⟨s0, s1, s2, t0, t1, t2⟩ := hS3
        have hlx := rdok_len hx3
        have hly := rdok_len hy3
        have hex := rdok_e hx3
        have hey := rdok_e hy3
        have HP := Lib.hid (show (limbs (val x.xs * val y.xs)).length ≤ 256 from limbs_of_bits (Nat.le_trans (bits_mul_le _ _) (by omega)))
        have Hmu := Lib.hid (Mul_any x.a y.a x.xs y.xs x.c y.c V hx3.1.1 hy3.1.1 (by omega) (by omega) hx3.1.2.1 hy3.1.2.1 hx3.1.2.2.1 hy3.1.2.2.1 HP.out)
        have HD := Lib.hid (show D = chk (canon (x.neg != y.neg) (val x.xs * val y.xs) (x.e + y.e)) from HD0.out)
        go_wp2_with fail
        refine Hmu.out.mono ?_
        rintro e w3 ⟨a3, c3, rfl, l3, m3, rd3, k3⟩
        generalize val x.xs * val y.xs = N at *
        have u0 := k3.cell s0
        have u2 := k3.cell s2
        have v0 := k3.cell t0
        have v2 := k3.cell t2
        have hB4 := hB3.kp k3
        have hk6 := hk5.trans k3
        have hT4 := hT3.kp k3
        have hcl := canon_len (x.neg != y.neg) N (x.e + y.e)
        have hce := canon_e (x.neg != y.neg) (show -1000000000 ≤ x.e + y.e by omega) (show x.e + y.e ≤ 1000000000 by omega) HP.out
        have Hok := Lib.hid (chk_canon_ok (x.neg != y.neg) N (x.e + y.e))
        have HcN := Lib.hid (canonical_any (x.neg != y.neg) a3 (limbs N) c3 (x.e + y.e) w3 rd3 l3 m3 HP.out (by omega) (by omega) hT4)
        clear s0 s1 s2 t0 t1 t2 hB3 hk5 hT3 Hmu k3
        go_wp2_with fail
        have hC := HcN.out
        rw [val_limbs] at hC
        refine hC.mono ?_
        clear hC HcN
        rintro e w4 ⟨a4, c4, rfl, r4, l4, m4, k4⟩
        have HPl := HP.out
        clear HD0
        generalize canon (x.neg != y.neg) N (x.e + y.e) = G at *
        clear u0 u2 v0 v2
        go_wp2_with fail
        refine (checked_any G a4 c4 _ r4 l4 m4 (by omega) ⟨by omega, by omega⟩).mono ?_
        rintro e w5 ⟨a5, c5, rfl, r5, l5, m5, k5⟩
        obtain ⟨q0, q1, q2, f0, f1, f2⟩ := (hB4.kp k4).kp k5
        have hkk := (hk6.trans k4).trans k5
        clear hB4 hk6 k4 k5 r4
        have HG1 := Lib.hid (show D.1 = (chk G).1 ∧ D.2 = (chk G).2 by rw [HD.out]; exact ⟨rfl, rfl⟩)
        clear HD
        generalize (chk G).1 = F at *
        have hst := stored q0 q1 q2 (fun _ h => by cases h) (fun _ h => by cases h) (fun _ h => by cases h) (.bool F.neg) (.slice a5 (limbs F.m).length c5) (.int .i64 F.e)
        go_wp2_with fail
        generalize (((w5.setCell _ _).setCell _ _).setCell _ _) = W2 at hst ⊢
        obtain ⟨s0, s1, s2, _, s4, s5, _, _⟩ := hst
        refine bodyPost_ret (v := .tuple #[.agg #[.bool F.neg, .slice a5 (limbs F.m).length c5, .int .i64 F.e], .int .i64 (chk G).2]) (by simp [results, Tryd.results28, go_sem, s0, s1, s2]) rfl ?_
        rw [HG1.out.1, HG1.out.2]
        exact ⟨rdOf F a5 c5, rfl, rdOf_rd Hok.out (s4 _ _ r5) l5 m5, rdOf_dy _ _ _, fun hd => rdOf_vl hd _ _, s5 _ hkk (by omega)⟩
end Go.Proofs.YtkkiinbgjjjcoaaDoor
