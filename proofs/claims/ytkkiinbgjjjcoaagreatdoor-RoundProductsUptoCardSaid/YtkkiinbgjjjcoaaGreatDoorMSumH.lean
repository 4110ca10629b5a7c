/-
  Walks: dyadic.sum, whole; Add, Sub.
  Walks: dyadic.Add and Sub of valid numbers.
-/
import Derived.Test.YtkkiinbgjjjcoaaGreatDoorMSumG
import Derived.Test.YtkkiinbgjjjcoaaGreatDoorMRoB
section
namespace Go.Proofs.YtkkiinbgjjjcoaaGreatDoor
open Go.RowKit

theorem len_is0 {n : Nat} (h : n = 0) : (((limbs n).length : Int) == 0) = true := by subst h; rw [limbs_zero]; rfl
set_option maxHeartbeats 2000000 in
theorem sum_z2_ok (d f : Dy) (a b : Option Addr) (c k : Nat) (w : World) (hd : DyAt w d a c) (hf : DyAt w f b k) (hd0 : d.m ≠ 0) (hf0 : f.m = 0) (hT : Tab w) :
    Calls Tryz.prog 59 #[.agg #[.bool d.neg, .slice a (limbs d.m).length c, .int .i64 d.e], .agg #[.bool f.neg, .slice b (limbs f.m).length k, .int .i64 f.e]] w (DyE w (chk (sumD d f)).1 (chk (sumD d f)).2) := by
  have Hs := Lib.hid (show chk (sumD d f) = (d, 0) by rw [f.eq_zero hf.1 hf0, sumD_zero' hd.1, chk_of_ok hd.1])
  have z1 := len_ne hd0
  have z2 := len_is0 hf0
  have hed := ok_e hd.1
  have hl := ok_len hd.1
  clear hd0 hf0
  go_enter Tryz.func59, Tryz.ntmps59
  go_wp2_with fail
  generalize hW : (((w.alloc _).alloc _).alloc _) = W at *
  have hk : Kp w W := hW ▸ (((Kp.refl w).alloc _).alloc _).alloc _
  have hB : Box3 W (w.heap.size + 2) (.bool false) (.slice none 0 0) (.int .i64 0) := hW ▸ Box3.new3 _ _ _ _ _ _ _
  clear hW
  have hd1 := hd.kp hk
  have HC := canonical_any d.neg a (limbs d.m) c d.e W hd1.2.1 hd1.2.2.1 hd1.2.2.2 (by omega) (by omega) (by omega) (hT.kp hk)
  rw [val_limbs, canon_ok hd.1] at HC
  refine HC.mono ?_
  rintro e w8 ⟨a8, c8, rfl, h2, h3', h4', k8⟩
  obtain ⟨q0, q1, q2, f0, f1, f2⟩ := hB.kp k8
  have hkk := hk.trans k8
  clear HC hd1 hd hf hT hB
  go_wp2_with fail
  have hst := stored q0 q1 q2 (fun _ h => by cases h) (fun _ h => by cases h) (fun _ h => by cases h) (.bool d.neg) (.slice a8 (limbs d.m).length c8) (.int .i64 d.e)
  generalize (((w8.setCell _ _).setCell _ _).setCell _ _) = W2 at hst ⊢
  obtain ⟨s0, s1, s2, _, s4, s5, _, _⟩ := hst
  refine bodyPost_ret (v := .tuple #[.agg #[.bool d.neg, .slice a8 (limbs d.m).length c8, .int .i64 d.e], .int .i64 0]) (by simp [results, Tryz.results59, go_sem, s0, s1, s2]) rfl ?_
  rw [Hs.out]
  exact ⟨a8, c8, rfl, s4 _ _ h2, h3', h4', s5 _ hkk (by omega)⟩
set_option maxHeartbeats 2000000 in
theorem sum_z1_ok (d f : Dy) (a b : Option Addr) (c k : Nat) (w : World) (hd : DyAt w d a c) (hf : DyAt w f b k) (hd0 : d.m = 0) (hT : Tab w) :
    Calls Tryz.prog 59 #[.agg #[.bool d.neg, .slice a (limbs d.m).length c, .int .i64 d.e], .agg #[.bool f.neg, .slice b (limbs f.m).length k, .int .i64 f.e]] w (DyE w (chk (sumD d f)).1 (chk (sumD d f)).2) := by
  have Hs := Lib.hid (show chk (sumD d f) = (f, 0) by rw [d.eq_zero hd.1 hd0, sumD_zero hf.1, chk_of_ok hf.1])
  have z1 := len_is0 hd0
  have hed := ok_e hf.1
  have hl := ok_len hf.1
  clear hd0
  go_enter Tryz.func59, Tryz.ntmps59
  go_wp2_with fail
  generalize hW : (((w.alloc _).alloc _).alloc _) = W at *
  have hk : Kp w W := hW ▸ (((Kp.refl w).alloc _).alloc _).alloc _
  have hB : Box3 W (w.heap.size + 2) (.bool false) (.slice none 0 0) (.int .i64 0) := hW ▸ Box3.new3 _ _ _ _ _ _ _
  clear hW
  have hd1 := hf.kp hk
  have HC := canonical_any f.neg b (limbs f.m) k f.e W hd1.2.1 hd1.2.2.1 hd1.2.2.2 (by omega) (by omega) (by omega) (hT.kp hk)
  rw [val_limbs, canon_ok hf.1] at HC
  refine HC.mono ?_
  rintro e w8 ⟨a8, c8, rfl, h2, h3', h4', k8⟩
  obtain ⟨q0, q1, q2, f0, f1, f2⟩ := hB.kp k8
  have hkk := hk.trans k8
  clear HC hd1 hd hf hT hB
  go_wp2_with fail
  have hst := stored q0 q1 q2 (fun _ h => by cases h) (fun _ h => by cases h) (fun _ h => by cases h) (.bool f.neg) (.slice a8 (limbs f.m).length c8) (.int .i64 f.e)
  generalize (((w8.setCell _ _).setCell _ _).setCell _ _) = W2 at hst ⊢
  obtain ⟨s0, s1, s2, _, s4, s5, _, _⟩ := hst
  refine bodyPost_ret (v := .tuple #[.agg #[.bool f.neg, .slice a8 (limbs f.m).length c8, .int .i64 f.e], .int .i64 0]) (by simp [results, Tryz.results59, go_sem, s0, s1, s2]) rfl ?_
  rw [Hs.out]
  exact ⟨a8, c8, rfl, s4 _ _ h2, h3', h4', s5 _ hkk (by omega)⟩
theorem sum_ok (d f : Dy) (a b : Option Addr) (c k : Nat) (w : World) (hd : DyAt w d a c) (hf : DyAt w f b k) (hT : Tab w) :
    Calls Tryz.prog 59 #[.agg #[.bool d.neg, .slice a (limbs d.m).length c, .int .i64 d.e], .agg #[.bool f.neg, .slice b (limbs f.m).length k, .int .i64 f.e]] w (DyE w (chk (sumD d f)).1 (chk (sumD d f)).2) := by
  by_cases hd0 : d.m = 0
  · exact sum_z1_ok d f a b c k w hd hf hd0 hT
  · by_cases hf0 : f.m = 0
    · exact sum_z2_ok d f a b c k w hd hf hd0 hf0 hT
    · by_cases hb : farB d f
      · exact sum_farB d f a b c k w hd hf hd0 hf0 hb
      · by_cases hs : d.neg = f.neg
        · exact sum_same_ok d f a b c k w hd hf hd0 hf0 hb hT hs
        · rcases Nat.lt_or_ge (d.m * 2 ^ (d.e - min d.e f.e).toNat) (f.m * 2 ^ (f.e - min d.e f.e).toNat) with h | h
          · exact sum_lt_ok d f a b c k w hd hf hd0 hf0 hb hT hs h
          · exact sum_ge_ok d f a b c k w hd hf hd0 hf0 hb hT hs h
theorem sumD_chk_ok (d f : Dy) : (chk (sumD d f)).1.ok := chk_canon_ok _ _ _
theorem rdok_at {w : World} {x : RD} (h : x.ok w) : DyAt w x.dy x.a x.c := ⟨rdok_dy h, by rw [rdok_limbs h]; exact h.1.1, by rw [rdok_limbs h]; exact h.1.2.1, h.1.2.2.1⟩
theorem sum_rd (x y : RD) (w : World) (hx : x.ok w) (hy : y.ok w) (hT : Tab w) :
    Calls Tryz.prog 59 #[.agg #[.bool x.neg, .slice x.a x.xs.length x.c, .int .i64 x.e], .agg #[.bool y.neg, .slice y.a y.xs.length y.c, .int .i64 y.e]] w (NumE w (chk (sumD x.dy y.dy)).1 (chk (sumD x.dy y.dy)).2) := by
  have H := sum_ok x.dy y.dy x.a y.a x.c y.c w (rdok_at hx) (rdok_at hy) hT
  rw [rdok_limbs hx, rdok_limbs hy] at H
  have hok := sumD_chk_ok x.dy y.dy
  have hl := ok_len hok
  exact H.mono fun e w' h => h.num (by omega) (ok_I64 hok)
end Go.Proofs.YtkkiinbgjjjcoaaGreatDoor
end

section
namespace Go.Proofs.YtkkiinbgjjjcoaaGreatDoor
open Go.RowKit

theorem keepRR {w w' : World} (k : Kp w w') {g h : Nat} {x y : RD} (hS : w.cell? ⟨g, 0, none⟩ = some (.bool x.neg) ∧ w.cell? ⟨g, 1, none⟩ = some (.slice x.a x.xs.length x.c) ∧ w.cell? ⟨g, 2, none⟩ = some (.int .i64 x.e) ∧ w.cell? ⟨h, 0, none⟩ = some (.bool y.neg) ∧ w.cell? ⟨h, 1, none⟩ = some (.slice y.a y.xs.length y.c) ∧ w.cell? ⟨h, 2, none⟩ = some (.int .i64 y.e)) : w'.cell? ⟨g, 0, none⟩ = some (.bool x.neg) ∧ w'.cell? ⟨g, 1, none⟩ = some (.slice x.a x.xs.length x.c) ∧ w'.cell? ⟨g, 2, none⟩ = some (.int .i64 x.e) ∧ w'.cell? ⟨h, 0, none⟩ = some (.bool y.neg) ∧ w'.cell? ⟨h, 1, none⟩ = some (.slice y.a y.xs.length y.c) ∧ w'.cell? ⟨h, 2, none⟩ = some (.int .i64 y.e) := keep6 k hS
theorem setRR {w : World} {o g h : Nat} (n : g ≠ o) (n' : h ≠ o) {x y : RD} {v0 v1 v2 : Value} (hS : w.cell? ⟨g, 0, none⟩ = some (.bool x.neg) ∧ w.cell? ⟨g, 1, none⟩ = some (.slice x.a x.xs.length x.c) ∧ w.cell? ⟨g, 2, none⟩ = some (.int .i64 x.e) ∧ w.cell? ⟨h, 0, none⟩ = some (.bool y.neg) ∧ w.cell? ⟨h, 1, none⟩ = some (.slice y.a y.xs.length y.c) ∧ w.cell? ⟨h, 2, none⟩ = some (.int .i64 y.e)) :
    (((w.setCell ⟨o, 0, none⟩ v0).setCell ⟨o, 1, none⟩ v1).setCell ⟨o, 2, none⟩ v2).cell? ⟨g, 0, none⟩ = some (.bool x.neg) ∧ (((w.setCell ⟨o, 0, none⟩ v0).setCell ⟨o, 1, none⟩ v1).setCell ⟨o, 2, none⟩ v2).cell? ⟨g, 1, none⟩ = some (.slice x.a x.xs.length x.c) ∧ (((w.setCell ⟨o, 0, none⟩ v0).setCell ⟨o, 1, none⟩ v1).setCell ⟨o, 2, none⟩ v2).cell? ⟨g, 2, none⟩ = some (.int .i64 x.e) ∧ (((w.setCell ⟨o, 0, none⟩ v0).setCell ⟨o, 1, none⟩ v1).setCell ⟨o, 2, none⟩ v2).cell? ⟨h, 0, none⟩ = some (.bool y.neg) ∧ (((w.setCell ⟨o, 0, none⟩ v0).setCell ⟨o, 1, none⟩ v1).setCell ⟨o, 2, none⟩ v2).cell? ⟨h, 1, none⟩ = some (.slice y.a y.xs.length y.c) ∧ (((w.setCell ⟨o, 0, none⟩ v0).setCell ⟨o, 1, none⟩ v1).setCell ⟨o, 2, none⟩ v2).cell? ⟨h, 2, none⟩ = some (.int .i64 y.e) := by
  obtain ⟨a0, a1, a2, b0, b1, b2⟩ := hS
  obtain ⟨c0, c1, c2⟩ := set3x (x0 := v0) (x1 := v1) (x2 := v2) n ⟨a0, a1, a2⟩
  obtain ⟨d0, d1, d2⟩ := set3x (x0 := v0) (x1 := v1) (x2 := v2) n' ⟨b0, b1, b2⟩
  exact ⟨c0, c1, c2, d0, d1, d2⟩
set_option maxHeartbeats 2000000 in
theorem Sub_rd (x y : RD) (w : World) (hx : x.ok w) (hy : y.ok w) (hT : Tab w) :
    Calls Tryz.prog 32 #[.agg #[.bool x.neg, .slice x.a x.xs.length x.c, .int .i64 x.e], .agg #[.bool y.neg, .slice y.a y.xs.length y.c, .int .i64 y.e]] w (NumE w (chk (sumD x.dy y.dy.opp)).1 (chk (sumD x.dy y.dy.opp)).2) := by
  have hvx := hx.2
  have hvy := hy.2
  have hyd := rdok_dy hy
  go_enter Tryz.func32, Tryz.ntmps32
  go_wp2_with fail
  generalize hW : (((w.alloc _).alloc _).alloc _) = W at *
  have hk : Kp w W := hW ▸ (((Kp.refl w).alloc _).alloc _).alloc _
  have hS : W.cell? ⟨w.heap.size, 0, none⟩ = some (.bool x.neg) ∧ W.cell? ⟨w.heap.size, 1, none⟩ = some (.slice x.a x.xs.length x.c) ∧ W.cell? ⟨w.heap.size, 2, none⟩ = some (.int .i64 x.e) ∧ W.cell? ⟨w.heap.size + 1, 0, none⟩ = some (.bool y.neg) ∧ W.cell? ⟨w.heap.size + 1, 1, none⟩ = some (.slice y.a y.xs.length y.c) ∧ W.cell? ⟨w.heap.size + 1, 2, none⟩ = some (.int .i64 y.e) := by rw [← hW]; exact keep6 ((Kp.refl _).alloc _) (by simp)
  have hB : Box3 W (w.heap.size + 2) (.bool false) (.slice none 0 0) (.int .i64 0) := hW ▸ Box3.new3 _ _ _ _ _ _ _
  clear hW
  refine (Valid_rok x _ (hx.kp hk)).mono ?_
  rintro e w1 ⟨rfl, hk1⟩
  have hS1 := keepRR hk1 hS
  have hB1 := hB.kp hk1
  have hk2 := hk.trans hk1
  clear hS hk hk1 hB
  go_wp2_with fail
  refine (Valid_rok y _ (hy.kp hk2)).mono ?_
  rintro e w2 ⟨rfl, hk3⟩
  have hk4 := (hk2.trans hk3).drew
  have hS2 := keepRR (Kp.refl w2).drew (keepRR hk3 hS1)
  have hB2 := (hB1.kp hk3).kp (Kp.refl w2).drew
  have hx4 := hx.kp hk4
  have hy4 := hy.kp hk4
  have hT4 := hT.kp hk4
  clear hS1 hk2 hk3 hB1
  go_wp2_with fail
  go_region_held3 (fun w' => w'.cell? ⟨w.heap.size, 0, none⟩ = some (.bool x.neg) ∧ w'.cell? ⟨w.heap.size, 1, none⟩ = some (.slice x.a x.xs.length x.c) ∧ w'.cell? ⟨w.heap.size, 2, none⟩ = some (.int .i64 x.e) ∧ w'.cell? ⟨w.heap.size + 1, 0, none⟩ = some (.bool y.neg) ∧ w'.cell? ⟨w.heap.size + 1, 1, none⟩ = some (.slice y.a y.xs.length y.c) ∧ w'.cell? ⟨w.heap.size + 1, 2, none⟩ = some (.int .i64 y.e)) (first | with_reducible assumption | with_reducible exact keepRR (by assumption) (by assumption) | with_reducible exact setRR (by omega) (by omega) (by assumption))
    (first
      | (go_at_call 60; refine (Neg_ok y _ hy4).mono ?_; rintro e w5 ⟨v, rfl, rv, hv, vv, hk5⟩)
      | (go_at_call 59; refine (sum_rd x v _ (hx4.kp hk5) ⟨rv, vv (Dy.opp_ok hyd)⟩ (hT4.kp hk5)).mono ?_; rw [hv]; rintro e w6 ⟨z, rfl, rz, hz, vz, hk6⟩; obtain ⟨q0, q1, q2, f0, f1, f2⟩ := (hB2.kp hk5).kp hk6))
  have hkk := (hk4.trans hk5).trans hk6
  clear hS2 hB2 hk4 hk5 hk6
  have hst := stored q0 q1 q2 (fun _ h => by cases h) (fun _ h => by cases h) (fun _ h => by cases h) (.bool z.neg) (.slice z.a z.xs.length z.c) (.int .i64 z.e)
  go_wp2_with fail
  generalize (((w6.setCell _ _).setCell _ _).setCell _ _) = W2 at hst ⊢
  obtain ⟨s0, s1, s2, _, s4, s5, _, _⟩ := hst
  refine bodyPost_ret (v := .tuple #[.agg #[.bool z.neg, .slice z.a z.xs.length z.c, .int .i64 z.e], .int .i64 (chk (sumD x.dy y.dy.opp)).2]) (by simp [results, Tryz.results32, go_sem, s0, s1, s2]) rfl ?_
  exact ⟨z, rfl, ⟨s4 _ _ rz.1, rz.2⟩, hz, vz, s5 _ hkk (by omega)⟩
end Go.Proofs.YtkkiinbgjjjcoaaGreatDoor
end
