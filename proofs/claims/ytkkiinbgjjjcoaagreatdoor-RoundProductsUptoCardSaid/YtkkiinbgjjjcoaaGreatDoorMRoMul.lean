/-
  Walks: round.mul, MulDown, MulUp.
-/
import Derived.Test.YtkkiinbgjjjcoaaGreatDoorMLaw3P
namespace Go.Proofs.YtkkiinbgjjjcoaaGreatDoor
open Go.RowKit

theorem bits_mul_le (a b : Nat) : bits (a * b) ≤ bits a + bits b := bits_le.2 (by rw [Nat.pow_add]; exact Nat.mul_lt_mul'' (lt_two_pow_bits a) (lt_two_pow_bits b))
/-- a product, rounded -/
def mulB (x y : RD) (p : Int) (up : Bool) : Dy × Int :=
  if fltB p [x, y] = 0 then (if x.xs.length = 0 ∨ y.xs.length = 0 then (.zero, 0) else rndE (rndS (x.neg != y.neg) (val x.xs * val y.xs) (x.e + y.e) false p.toNat up)) else (.zero, fltB p [x, y])
set_option maxRecDepth 100000 in
set_option maxHeartbeats 8000000 in
theorem mul_rd (x y : RD) (p : Int) (up : Bool) (w : World) (hx : x.rd w) (hy : y.rd w) (hT : Tab w) :
    Calls Tryz.prog 22 #[.agg #[.bool x.neg, .slice x.a x.xs.length x.c, .int .i64 x.e], .agg #[.bool y.neg, .slice y.a y.xs.length y.c, .int .i64 y.e], .int .i64 p, .bool up] w (NumE w (mulB x y p up).1 (mulB x y p up).2) := by
  obtain ⟨D, hD⟩ : ∃ D, D = mulB x y p up := ⟨_, rfl⟩
  have HD := Lib.hid hD
  rw [← hD]
  clear hD
  go_enter Tryz.func22, Tryz.ntmps22
  go_wp2_with fail
  generalize hW : (((w.alloc _).alloc _).alloc _) = W at *
  have hk : Kp w W := hW ▸ (((Kp.refl w).alloc _).alloc _).alloc _
  have hS : W.cell? ⟨w.heap.size, 0, none⟩ = some (.bool x.neg) ∧ W.cell? ⟨w.heap.size, 1, none⟩ = some (.slice x.a x.xs.length x.c) ∧ W.cell? ⟨w.heap.size, 2, none⟩ = some (.int .i64 x.e) ∧ W.cell? ⟨w.heap.size + 1, 0, none⟩ = some (.bool y.neg) ∧ W.cell? ⟨w.heap.size + 1, 1, none⟩ = some (.slice y.a y.xs.length y.c) ∧ W.cell? ⟨w.heap.size + 1, 2, none⟩ = some (.int .i64 y.e) := by rw [← hW]; exact keep6 ((Kp.refl _).alloc _) (by simp)
  have hB : Box3 W (w.heap.size + 2) (.bool false) (.slice none 0 0) (.int .i64 0) := hW ▸ Box3.new3 _ _ _ _ _ _ _
  have hsz : W.heap.size = w.heap.size + 1 + 1 + 1 := by rw [← hW]; simp
  clear hW
  have hka := (Kp.refl W).alloc (.cells #[.bool x.neg, .slice x.a x.xs.length x.c, .int .i64 x.e, .bool y.neg, .slice y.a y.xs.length y.c, .int .i64 y.e] 24)
  have hRw := rowD_two W x y (hx.kp hk) (hy.kp hk) 24
  rw [hsz] at hRw
  clear hsz
  refine (fault_any p _ [x, y] 2 _ hRw (by simp)).mono ?_
  rintro e w1 ⟨rfl, hk1⟩
  have hS1 := keepRR (hka.trans hk1) hS
  have hB1 := hB.kp (hka.trans hk1)
  have hk2 := hk.trans (hka.trans hk1)
  clear hS hB hk hk1 hka hRw
  by_cases h0 : fltB p [x, y] = 0
  · obtain ⟨hv, hp0, hp1⟩ := fltB_zero.1 h0
    obtain ⟨q, rfl⟩ := Int.eq_ofNat_of_zero_le (show 0 ≤ p by omega)
    have hxo : x.ok w1 := ⟨hx.kp hk2, by simpa using (List.all_eq_true.1 hv) x (by simp)⟩
    have hyo : y.ok w1 := ⟨hy.kp hk2, by simpa using (List.all_eq_true.1 hv) y (by simp)⟩
    have HD2 := Lib.hid (show D = (if x.xs.length = 0 ∨ y.xs.length = 0 then (.zero, 0) else rndE (rndS (x.neg != y.neg) (val x.xs * val y.xs) (x.e + y.e) false q up)) by
      rw [HD.out]; unfold mulB; rw [if_pos h0]; rfl)
    rw [h0]
    clear h0 hv
    have hT1 := hT.kp hk2
    by_cases hx0 : x.xs.length = 0
    · have hz : ((x.xs.length : Int) == 0) = true := beq_iff_eq.2 (by omega)
      have HD3 := Lib.hid (show D = (.zero, 0) by rw [HD2.out, if_pos (.inl hx0)])
      clear hx0
      obtain ⟨q0, q1, q2, f0, f1, f2⟩ := hB1
      obtain ⟨s0, s1, s2, t0, t1, t2⟩ := hS1
      go_wp2_with fail
      have hst := stored q0 q1 q2 (fun _ h => by cases h) (fun _ h => by cases h) (fun _ h => by cases h) (.bool false) (.slice none 0 0) (.int .i64 0)
      generalize (((w1.setCell _ _).setCell _ _).setCell _ _) = W9 at hst ⊢
      obtain ⟨s0, s1, s2, _, s4, s5, _, _⟩ := hst
      refine bodyPost_ret (v := .tuple #[.agg #[.bool false, .slice none 0 0, .int .i64 0], .int .i64 0]) (by simp [results, Tryz.results22, go_sem, s0, s1, s2]) rfl ?_
      rw [HD3.out]
      exact numE_zero rfl (s5 _ hk2 (by omega))
    · have hz : ((x.xs.length : Int) == 0) = false := beq_eq_false_iff_ne.2 (by omega)
      by_cases hy0 : y.xs.length = 0
      · have hz2 : ((y.xs.length : Int) == 0) = true := beq_iff_eq.2 (by omega)
        have HD3 := Lib.hid (show D = (.zero, 0) by rw [HD2.out, if_pos (.inr hy0)])
        clear hy0 hx0
        obtain ⟨q0, q1, q2, f0, f1, f2⟩ := hB1
        obtain ⟨s0, s1, s2, t0, t1, t2⟩ := hS1
        go_wp2_with fail
        have hst := stored q0 q1 q2 (fun _ h => by cases h) (fun _ h => by cases h) (fun _ h => by cases h) (.bool false) (.slice none 0 0) (.int .i64 0)
        generalize (((w1.setCell _ _).setCell _ _).setCell _ _) = W9 at hst ⊢
        obtain ⟨s0, s1, s2, _, s4, s5, _, _⟩ := hst
        refine bodyPost_ret (v := .tuple #[.agg #[.bool false, .slice none 0 0, .int .i64 0], .int .i64 0]) (by simp [results, Tryz.results22, go_sem, s0, s1, s2]) rfl ?_
        rw [HD3.out]
        exact numE_zero rfl (s5 _ hk2 (by omega))
      · have hz2 : ((y.xs.length : Int) == 0) = false := beq_eq_false_iff_ne.2 (by omega)
        have HD3 := Lib.hid (show D = rndE (rndS (x.neg != y.neg) (val x.xs * val y.xs) (x.e + y.e) false q up) by
          rw [HD2.out, if_neg (by rintro (h | h); exact hx0 h; exact hy0 h)])
        clear hx0 hy0
        obtain ⟨s0, s1, s2, t0, t1, t2⟩ := hS1
        have hlx := rdok_len hxo
        have hly := rdok_len hyo
        have hex := rdok_e hxo
        have hey := rdok_e hyo
        have HP := Lib.hid (show (limbs (val x.xs * val y.xs)).length ≤ 256 by
          refine limbs_of_bits ?_
          have h1 : bits (val x.xs) ≤ 4096 := dok_bits (rdok_dy hxo)
          have h2 : bits (val y.xs) ≤ 4096 := dok_bits (rdok_dy hyo)
          exact Nat.le_trans (bits_mul_le _ _) (by omega))
        have Hmu := Lib.hid (Mul_any x.a y.a x.xs y.xs x.c y.c w1 hxo.1.1 hyo.1.1 (by omega) (by omega) hxo.1.2.1 hyo.1.2.1 hxo.1.2.2.1 hyo.1.2.2.1 HP.out)
        go_wp2_with fail
        refine Hmu.out.mono ?_
        rintro e w3 ⟨a3, c3, rfl, l3, m3, rd3, k3⟩
        generalize val x.xs * val y.xs = N at *
        have u0 := k3.cell s0
        have u2 := k3.cell s2
        have v0 := k3.cell t0
        have v2 := k3.cell t2
        have hB3 := hB1.kp k3
        have hk4 := hk2.trans k3
        have hT4 := hT1.kp k3
        have hwe : IntKind.i64.wrap (x.e + y.e) = x.e + y.e := IntWalk.i64_in _ (by omega)
        clear s0 s1 s2 t0 t1 t2 hB1 hk2 k3 hT1 Hmu
        go_wp2_with fail
        have Hsg := signed_any (x.neg != y.neg) a3 (limbs N) c3 (x.e + y.e) false q up w3 rd3 HP.out l3 m3 (by omega) (by omega) (by omega) (by omega) hT4
        rw [val_limbs] at Hsg
        refine Hsg.mono ?_
        clear Hsg
        rintro e w9 ⟨z, rfl, hzr, hzd, hzv, hk9⟩
        obtain ⟨q0, q1, q2, f0, f1, f2⟩ := hB3.kp hk9
        have hkk := hk4.trans hk9
        clear u0 u2 v0 v2 hB3 hk4 hk9 hT4
        have hst := stored q0 q1 q2 (fun _ h => by cases h) (fun _ h => by cases h) (fun _ h => by cases h) (.bool z.neg) (.slice z.a z.xs.length z.c) (.int .i64 z.e)
        go_wp2_with fail
        generalize (((w9.setCell _ _).setCell _ _).setCell _ _) = W2 at hst ⊢
        obtain ⟨s0, s1, s2, _, s4, s5, _, _⟩ := hst
        refine bodyPost_ret (v := .tuple #[.agg #[.bool z.neg, .slice z.a z.xs.length z.c, .int .i64 z.e], .int .i64 (rndE (rndS (x.neg != y.neg) N (x.e + y.e) false q up)).2]) (by simp [results, Tryz.results22, go_sem, s0, s1, s2]) rfl ?_
        rw [HD3.out]
        exact ⟨z, rfl, ⟨s4 _ _ hzr.1, hzr.2⟩, hzd, hzv, s5 _ hkk (by omega)⟩
  · have hz : (fltB p [x, y] == 0) = false := beq_eq_false_iff_ne.2 h0
    have hz2 : (fltB p [x, y] != 0) = true := by rw [bne, hz]; rfl
    have HD2 := Lib.hid (show D = (.zero, fltB p [x, y]) by rw [HD.out]; unfold mulB; rw [if_neg h0])
    clear h0 hS1
    obtain ⟨q0, q1, q2, f0, f1, f2⟩ := hB1
    go_wp2_with fail
    have hst := stored q0 q1 q2 (fun _ h => by cases h) (fun _ h => by cases h) (fun _ h => by cases h) (.bool false) (.slice none 0 0) (.int .i64 0)
    generalize (((w1.setCell _ _).setCell _ _).setCell _ _) = W9 at hst ⊢
    obtain ⟨s0, s1, s2, _, s4, s5, _, _⟩ := hst
    refine bodyPost_ret (v := .tuple #[.agg #[.bool false, .slice none 0 0, .int .i64 0], .int .i64 (fltB p [x, y])]) (by simp [results, Tryz.results22, go_sem, s0, s1, s2]) rfl ?_
    rw [HD2.out]
    exact numE_zero rfl (s5 _ hk2 (by omega))
end Go.Proofs.YtkkiinbgjjjcoaaGreatDoor
