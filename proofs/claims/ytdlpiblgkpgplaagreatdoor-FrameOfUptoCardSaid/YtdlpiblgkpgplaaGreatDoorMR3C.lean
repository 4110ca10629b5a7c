/-
  Walks: the third reference's exact, Add.
  Walks: the fifth reference's Add.
-/
import Derived.Test.YtdlpiblgkpgplaaGreatDoorMR3B
import Derived.Test.YtdlpiblgkpgplaaGreatDoorMOfX
section
namespace Go.Proofs.YtdlpiblgkpgplaaGreatDoor
open Go.RowKit

set_option maxHeartbeats 2000000 in
theorem r3exact_any (x : RD) (p : Nat) (up : Bool) (w : World) (hx : x.rd w) (hl : x.xs.length ≤ 3000) (he0 : -100000 ≤ x.e) (he1 : x.e ≤ 100000) (hp0 : 8 ≤ p) (hp1 : p ≤ 512) (h0 : val x.xs = 0 → x.e ≤ 16384) :
    Calls Tryz.prog 101 #[.agg #[.bool x.neg, .slice x.a x.xs.length x.c, .int .i64 x.e], .int .i64 (p : Nat), .bool up] w (NumE w (rndE (rndS x.neg (val x.xs) x.e false p up)).1 (rndE (rndS x.neg (val x.xs) x.e false p up)).2) := by
  have HC := Lib.hid (fun W (k : Kp w W) => r3cut_any x.neg false x.a x.xs x.c x.e p up W (hx.kp k).1 hx.2.1 hx.2.2.1 hl he0 he1 hp0 hp1 (fun h => by cases h) h0)
  generalize (rndE (rndS x.neg (val x.xs) x.e false p up)).1 = D at *
  generalize (rndE (rndS x.neg (val x.xs) x.e false p up)).2 = f at *
  clear h0
  go_enter Tryz.func101, Tryz.ntmps101
  go_wp2_with fail
  generalize hW : ((w.alloc _).alloc _) = W at *
  have hk : Kp w W := hW ▸ ((Kp.refl w).alloc _).alloc _
  have hB : Box3 W (w.heap.size + 1) (.bool false) (.slice none 0 0) (.int .i64 0) := hW ▸ Box3.new2 _ _ _ _ _ _
  clear hW
  with_reducible refine (HC.out _ hk).mono ?_
  rintro e w5 ⟨z, rfl, hzr, hzd, hzv, hk5⟩
  obtain ⟨q0, q1, q2, f0, f1, f2⟩ := hB.kp hk5
  have hk6 := hk.trans hk5
  clear hB hk5
  have hst := stored q0 q1 q2 (fun _ h => by cases h) (fun _ h => by cases h) (fun _ h => by cases h) (.bool z.neg) (.slice z.a z.xs.length z.c) (.int .i64 z.e)
  go_wp2_with fail
  generalize (((w5.setCell _ _).setCell _ _).setCell _ _) = W2 at hst ⊢
  obtain ⟨s0, s1, s2, _, s4, s5, _, _⟩ := hst
  refine bodyPost_ret (v := .tuple #[.agg #[.bool z.neg, .slice z.a z.xs.length z.c, .int .i64 z.e], .int .i64 f]) (by simp [results, Tryz.results101, go_sem, s0, s1, s2]) rfl ?_
  exact ⟨z, rfl, ⟨s4 _ _ hzr.1, hzr.2⟩, hzd, hzv, s5 _ hk6 (by omega)⟩
theorem sumD_e (d f : Dy) : -16384 ≤ (sumD d f).e := by
  unfold sumD ofI canon
  split
  · exact (by decide : (-16384 : Int) ≤ 0)
  · show -16384 ≤ -16384 + (tz _ : Int); omega
theorem sumD_zero0 {d f : Dy} (h : (sumD d f).m = 0) : sumD d f = .zero := by
  unfold sumD ofI canon at h ⊢
  split
  · rfl
  · next h0 =>
    rw [if_neg h0] at h
    have := (oddp_spec h0).1
    have h2 : oddp (d.iv + f.iv).natAbs = 0 := h
    rw [h2] at this
    exact absurd this (by decide)
theorem sum_rnd {d f : Dy} {p : Nat} {up : Bool} (hp : p ≤ 512) : rndS (sumD d f).neg (sumD d f).m (sumD d f).e false p up = rnd 0 (d.iv + f.iv) p up := by
  by_cases h0 : (sumD d f).m = 0
  · have hz := sumD_zero0 h0
    have hi := sumD_iv d f
    rw [hz, Dy.iv_zero] at hi
    rw [hz, ← hi]
    have := rndS_rnd (d := .zero) Dy.ok_zero hp up
    rwa [Dy.iv_zero] at this
  · have he := sumD_e d f
    refine rndS_val (a := 0) (b := ((sumD d f).e + 16384).toNat) h0 ?_ (by omega)
    rw [Int.pow_zero, Int.mul_one, ← sumD_iv]
    unfold Dy.iv sg
    split
    · push_cast; rw [Int.neg_mul]
    · push_cast; rfl
theorem r2sum_dy (x y : RD) (w : World) (hx : x.ok w) (hy : y.ok w) :
    Calls Tryz.prog 102 #[.agg #[.bool x.neg, .slice x.a x.xs.length x.c, .int .i64 x.e], .agg #[.bool y.neg, .slice y.a y.xs.length y.c, .int .i64 y.e]] w (DyOut w (sumD x.dy y.dy)) := by
  have H := r2sum_ok x.dy y.dy x.a y.a x.c y.c w (rdok_at hx) (rdok_at hy)
  rw [rdok_limbs hx, rdok_limbs hy] at H
  exact H
theorem r3exact_dy (D : Dy) (a : Option Addr) (c : Nat) (p : Nat) (up : Bool) (w : World) (hr : Rd w a (limbs D.m)) (hl : (limbs D.m).length ≤ c) (hm : c ≤ maxLen) (hll : (limbs D.m).length ≤ 3000) (he0 : -100000 ≤ D.e) (he1 : D.e ≤ 100000) (hp0 : 8 ≤ p) (hp1 : p ≤ 512) (h0 : D.m = 0 → D.e ≤ 16384) :
    Calls Tryz.prog 101 #[.agg #[.bool D.neg, .slice a (limbs D.m).length c, .int .i64 D.e], .int .i64 (p : Nat), .bool up] w (NumE w (rndE (rndS D.neg D.m D.e false p up)).1 (rndE (rndS D.neg D.m D.e false p up)).2) := by
  have := r3exact_any ⟨D.neg, a, limbs D.m, c, D.e⟩ p up w ⟨hr, hl, hm, by show (limbs D.m).length ≤ 1100000; omega, by show _ ≤ D.e; omega, by show D.e ≤ _; omega⟩ hll he0 he1 hp0 hp1 (by rw [val_limbs]; exact h0)
  rw [val_limbs] at this
  exact this
set_option maxHeartbeats 4000000 in
set_option maxRecDepth 100000 in
theorem r3add_any (x y : RD) (p : Int) (up : Bool) (w : World) (hx : x.rd w) (hy : y.rd w) :
    Calls Tryz.prog 55 #[.agg #[.bool x.neg, .slice x.a x.xs.length x.c, .int .i64 x.e], .agg #[.bool y.neg, .slice y.a y.xs.length y.c, .int .i64 y.e], .int .i64 p, .bool up] w (NumE w (addB x y p up).1 (addB x y p up).2) := by
  obtain ⟨D, hD⟩ : ∃ D, D = addB x y p up := ⟨_, rfl⟩
  have HD := Lib.hid hD
  rw [← hD]
  clear hD
  go_enter Tryz.func55, Tryz.ntmps55
  go_wp2_with fail
  generalize hW : (((w.alloc _).alloc _).alloc _) = W at *
  have hk : Kp w W := hW ▸ (((Kp.refl w).alloc _).alloc _).alloc _
  have hS : W.cell? ⟨w.heap.size, 0, none⟩ = some (.bool x.neg) ∧ W.cell? ⟨w.heap.size, 1, none⟩ = some (.slice x.a x.xs.length x.c) ∧ W.cell? ⟨w.heap.size, 2, none⟩ = some (.int .i64 x.e) ∧ W.cell? ⟨w.heap.size + 1, 0, none⟩ = some (.bool y.neg) ∧ W.cell? ⟨w.heap.size + 1, 1, none⟩ = some (.slice y.a y.xs.length y.c) ∧ W.cell? ⟨w.heap.size + 1, 2, none⟩ = some (.int .i64 y.e) := by rw [← hW]; exact keep6 ((Kp.refl _).alloc _) (by simp)
  have hB : Box3 W (w.heap.size + 2) (.bool false) (.slice none 0 0) (.int .i64 0) := hW ▸ Box3.new3 _ _ _ _ _ _ _
  clear hW
  refine (r3fault_any x y p _ (hx.kp hk) (hy.kp hk)).mono ?_
  rintro e w1 ⟨rfl, hk1⟩
  have hS1 := keepRR hk1 hS
  have hB1 := hB.kp hk1
  have hk2 := hk.trans hk1
  clear hS hB hk hk1
  by_cases h0 : fltB p [x, y] = 0
  · obtain ⟨hv, hp0, hp1⟩ := fltB_zero.1 h0
    obtain ⟨q, rfl⟩ := Int.eq_ofNat_of_zero_le (show 0 ≤ p by omega)
    have hxo : x.ok w1 := ⟨hx.kp hk2, by simpa using (List.all_eq_true.1 hv) x (by simp)⟩
    have hyo : y.ok w1 := ⟨hy.kp hk2, by simpa using (List.all_eq_true.1 hv) y (by simp)⟩
    have HD2 := Lib.hid (show D = rndE (rndS (sumD x.dy y.dy).neg (sumD x.dy y.dy).m (sumD x.dy y.dy).e false q up) by
      rw [HD.out, sum_rnd (by omega)]; unfold addB; rw [if_pos h0]; rfl)
    rw [h0]
    clear h0 hv HD
    obtain ⟨hsl, hse⟩ := sumD_small (rdok_dy hxo) (rdok_dy hyo)
    have hse0 := sumD_e x.dy y.dy
    have hse1 : (sumD x.dy y.dy).e ≤ 100000 := by
      have h1 := bits_add_le (av_bits_le (rdok_dy hxo)) (av_bits_le (rdok_dy hyo))
      have h2 : (x.dy.iv + y.dy.iv).natAbs ≤ x.dy.av + y.dy.av := by
        rw [Dy.iv_av, Dy.iv_av]
        unfold sg
        split <;> split <;> omega
      have h3 := Nat.le_trans (bits_mono h2) h1
      unfold sumD ofI canon
      split
      · exact (by decide : (0 : Int) ≤ 100000)
      · next h0 => have := bits_of_nz h0; show -16384 + (tz _ : Int) ≤ 100000; omega
    have HZ := Lib.hid (@sumD_zero0 x.dy y.dy)
    obtain ⟨s0, s1, s2, t0, t1, t2⟩ := hS1
    have HS := Lib.hid (r2sum_dy x y w1 hxo hyo)
    clear hxo hyo
    go_wp2_with fail
    refine HS.out.mono ?_
    rintro e w3 ⟨a3, c3, rfl, r3, l3, m3, k3⟩
    have hEx := r3exact_dy (sumD x.dy y.dy) a3 c3 q up w3 r3 l3 m3 (by omega) (by omega) hse1 (by omega) (by omega) (fun h => by rw [HZ.out h]; decide)
    rw [← HD2.out] at hEx
    have HE := Lib.hid hEx
    clear hEx HS HZ s0 s1 s2 t0 t1 t2 hse hse0 hse1 hsl
    generalize sumD x.dy y.dy = G at *
    go_wp2_with fail
    refine HE.out.mono ?_
    rintro e w5 ⟨z, rfl, hzr, hzd, hzv, hk5⟩
    obtain ⟨q0, q1, q2, f0, f1, f2⟩ := (hB1.kp k3).kp hk5
    have hk6 := (hk2.trans k3).trans hk5
    clear hB1 hk5 HE r3
    have hst := stored q0 q1 q2 (fun _ h => by cases h) (fun _ h => by cases h) (fun _ h => by cases h) (.bool z.neg) (.slice z.a z.xs.length z.c) (.int .i64 z.e)
    go_wp2_with fail
    generalize (((w5.setCell _ _).setCell _ _).setCell _ _) = W2 at hst ⊢
    obtain ⟨s0, s1, s2, _, s4, s5, _, _⟩ := hst
    refine bodyPost_ret (v := .tuple #[.agg #[.bool z.neg, .slice z.a z.xs.length z.c, .int .i64 z.e], .int .i64 D.2]) (by simp [results, Tryz.results55, go_sem, s0, s1, s2]) rfl ?_
    exact ⟨z, rfl, ⟨s4 _ _ hzr.1, hzr.2⟩, hzd, hzv, s5 _ hk6 (by omega)⟩
  · have hz2 : (fltB p [x, y] != 0) = true := by simpa using h0
    have HD2 := Lib.hid (show D = (.zero, fltB p [x, y]) by rw [HD.out]; unfold addB; rw [if_neg h0])
    clear h0 hS1
    obtain ⟨q0, q1, q2, f0, f1, f2⟩ := hB1
    go_wp2_with fail
    have hst := stored q0 q1 q2 (fun _ h => by cases h) (fun _ h => by cases h) (fun _ h => by cases h) (.bool false) (.slice none 0 0) (.int .i64 0)
    generalize (((w1.setCell _ _).setCell _ _).setCell _ _) = W9 at hst ⊢
    obtain ⟨s0, s1, s2, _, s4, s5, _, _⟩ := hst
    refine bodyPost_ret (v := .tuple #[.agg #[.bool false, .slice none 0 0, .int .i64 0], .int .i64 (fltB p [x, y])]) (by simp [results, Tryz.results55, go_sem, s0, s1, s2]) rfl ?_
    rw [HD2.out]
    exact numE_zero rfl (s5 _ hk2 (by omega))
end Go.Proofs.YtdlpiblgkpgplaaGreatDoor
end

section
namespace Go.Proofs.YtdlpiblgkpgplaaGreatDoor
open Go.RowKit

end Go.Proofs.YtdlpiblgkpgplaaGreatDoor
end
