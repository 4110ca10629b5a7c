/-
  Walks: the reference's Sum, whole; Add, Sub of valid numbers.
  Walks: the reference's Sum of numbers as they come.
  Walks: the reference's Add and Sub of valid numbers.
-/
import Derived.Test.YtkohlmlmoapedaaGreatDoorMR2K
import Derived.Test.YtkohlmlmoapedaaGreatDoorMSumH
section
namespace Go.Proofs.YtkohlmlmoapedaaGreatDoor
open Go.RowKit

set_option maxHeartbeats 1000000 in
theorem r2sum_z1 (d f : Dy) (a b : Option Addr) (c k : Nat) (w : World) (hd : DyAt w d a c) (hf : DyAt w f b k) (hd0 : d.m = 0) :
    Calls Tryz.prog 35 #[.agg #[.bool d.neg, .slice a (limbs d.m).length c, .int .i64 d.e], .agg #[.bool f.neg, .slice b (limbs f.m).length k, .int .i64 f.e]] w (DyOut w (sumD d f)) := by
  have Hs := Lib.hid (show sumD d f = f by rw [d.eq_zero hd.1 hd0, sumD_zero hf.1])
  have z1 := len_is0 hd0
  clear hd0
  go_enter Tryz.func35, Tryz.ntmps35
  go_wp2_with fail
  generalize hW : (((w.alloc _).alloc _).alloc _) = W at *
  have hk : Kp w W := hW ▸ (((Kp.refl w).alloc _).alloc _).alloc _
  obtain ⟨q0, q1, q2, f0, f1, f2⟩ : Box3 W (w.heap.size + 2) (.bool f.neg) (.slice b (limbs f.m).length k) (.int .i64 f.e) := hW ▸ Box3.new3 _ _ _ _ _ _ _
  clear hW
  refine bodyPost_ret (v := .agg #[.bool f.neg, .slice b (limbs f.m).length k, .int .i64 f.e]) (by simp [results, Tryz.results35, go_sem, q0, q1, q2]) rfl ?_
  rw [Hs.out]
  exact ⟨b, k, rfl, hf.2.1.kp hk, hf.2.2.1, hf.2.2.2, hk⟩
set_option maxHeartbeats 1000000 in
theorem r2sum_z2 (d f : Dy) (a b : Option Addr) (c k : Nat) (w : World) (hd : DyAt w d a c) (hf : DyAt w f b k) (hd0 : d.m ≠ 0) (hf0 : f.m = 0) :
    Calls Tryz.prog 35 #[.agg #[.bool d.neg, .slice a (limbs d.m).length c, .int .i64 d.e], .agg #[.bool f.neg, .slice b (limbs f.m).length k, .int .i64 f.e]] w (DyOut w (sumD d f)) := by
  have Hs := Lib.hid (show sumD d f = d by rw [f.eq_zero hf.1 hf0, sumD_zero' hd.1])
  have z1 := len_ne hd0
  have z2 := len_is0 hf0
  clear hd0 hf0
  go_enter Tryz.func35, Tryz.ntmps35
  go_wp2_with fail
  generalize hW : (((w.alloc _).alloc _).alloc _) = W at *
  have hk : Kp w W := hW ▸ (((Kp.refl w).alloc _).alloc _).alloc _
  obtain ⟨q0, q1, q2, f0, f1, f2⟩ : Box3 W (w.heap.size + 2) (.bool d.neg) (.slice a (limbs d.m).length c) (.int .i64 d.e) := hW ▸ Box3.new3 _ _ _ _ _ _ _
  clear hW
  refine bodyPost_ret (v := .agg #[.bool d.neg, .slice a (limbs d.m).length c, .int .i64 d.e]) (by simp [results, Tryz.results35, go_sem, q0, q1, q2]) rfl ?_
  rw [Hs.out]
  exact ⟨a, c, rfl, hd.2.1.kp hk, hd.2.2.1, hd.2.2.2, hk⟩
theorem r2sum_ok (d f : Dy) (a b : Option Addr) (c k : Nat) (w : World) (hd : DyAt w d a c) (hf : DyAt w f b k) :
    Calls Tryz.prog 35 #[.agg #[.bool d.neg, .slice a (limbs d.m).length c, .int .i64 d.e], .agg #[.bool f.neg, .slice b (limbs f.m).length k, .int .i64 f.e]] w (DyOut w (sumD d f)) := by
  by_cases hd0 : d.m = 0
  · exact r2sum_z1 d f a b c k w hd hf hd0
  · by_cases hf0 : f.m = 0
    · exact r2sum_z2 d f a b c k w hd hf hd0 hf0
    · by_cases hs : d.neg = f.neg
      · exact r2sum_same d f a b c k w hd hf hd0 hf0 hs
      · rcases Nat.lt_or_ge (d.m * 2 ^ (d.e - min d.e f.e).toNat) (f.m * 2 ^ (f.e - min d.e f.e).toNat) with h | h
        · exact r2sum_lt d f a b c k w hd hf hd0 hf0 hs h
        · exact r2sum_ge d f a b c k w hd hf hd0 hf0 hs h
end Go.Proofs.YtkohlmlmoapedaaGreatDoor
end

section
namespace Go.Proofs.YtkohlmlmoapedaaGreatDoor
open Go.RowKit

theorem av_bits_le {d : Dy} (h : d.ok) : bits d.av ≤ 32768 := by
  by_cases h0 : d.m = 0
  · unfold Dy.av; rw [h0, Nat.zero_mul, bits_zero]; exact Nat.zero_le _
  · have := av_bits h h0
    have := topI_bounds h
    omega
theorem sumD_small {d f : Dy} (hd : d.ok) (hf : f.ok) : (limbs (sumD d f).m).length ≤ 2000 ∧ I64 (sumD d f).e := by
  have h1 := bits_add_le (av_bits_le hd) (av_bits_le hf)
  have h2 : (d.iv + f.iv).natAbs ≤ d.av + f.av := by
    rw [Dy.iv_av, Dy.iv_av]
    unfold sg
    split <;> split <;> omega
  have h3 := Nat.le_trans (bits_mono h2) h1
  unfold sumD ofI
  generalize (d.iv + f.iv).natAbs = n at *
  unfold canon
  split
  · exact ⟨by show (limbs 0).length ≤ 2000; rw [limbs_zero]; exact Nat.zero_le _, by decide, by decide⟩
  · next h0 =>
    have e1 := bits_oddp h0
    exact ⟨limbs_len_bits (by show bits (oddp n) ≤ 32 * 2000; omega), by show _ ≤ -16384 + (tz n : Int); omega, by show -16384 + (tz n : Int) ≤ _; omega⟩
theorem r2sum_rd (x y : RD) (w : World) (hx : x.ok w) (hy : y.ok w) :
    Calls Tryz.prog 35 #[.agg #[.bool x.neg, .slice x.a x.xs.length x.c, .int .i64 x.e], .agg #[.bool y.neg, .slice y.a y.xs.length y.c, .int .i64 y.e]] w (NumOut w (sumD x.dy y.dy)) := by
  have H := r2sum_ok x.dy y.dy x.a y.a x.c y.c w (rdok_at hx) (rdok_at hy)
  rw [rdok_limbs hx, rdok_limbs hy] at H
  obtain ⟨hl, he⟩ := sumD_small (rdok_dy hx) (rdok_dy hy)
  refine H.mono fun e w' h => ?_
  obtain ⟨a, c, h1, h2, h3, h4, h5⟩ := h
  exact ⟨rdOf _ a c, h1, ⟨h2, h3, h4, by show (limbs (sumD x.dy y.dy).m).length ≤ 1100000; omega, he⟩, rdOf_dy _ a c, fun hd => rdOf_vl hd a c, h5⟩
end Go.Proofs.YtkohlmlmoapedaaGreatDoor
end

section
namespace Go.Proofs.YtkohlmlmoapedaaGreatDoor
open Go.RowKit

theorem chk_vl {w : World} {z : RD} {D : Dy} (hr : z.rd w) (hz : z.dy = D) (hv : D.ok → z.vl = true) (hD : (chk D).1.ok) :
    (if z.vl then z.dy else .zero) = (chk D).1 ∧ (if z.vl then (0 : Int) else 9) = (chk D).2 := by
  cases h : z.vl with
  | true =>
    have ok : D.ok := hz ▸ (rdok_dy ⟨hr, h⟩)
    rw [chk_of_ok ok]
    exact ⟨hz, rfl⟩
  | false =>
    have hn : inrB D.m D.e = false := by
      cases hi : inrB D.m D.e with
      | false => rfl
      | true =>
        exfalso
        unfold chk at hD
        rw [hi] at hD
        have := hv hD
        rw [h] at this
        cases this
    unfold chk
    rw [hn]
    exact ⟨rfl, rfl⟩
theorem r2Valid_rok (x : RD) (w : World) (h : x.ok w) :
    Calls Tryz.prog 33 #[.agg #[.bool x.neg, .slice x.a x.xs.length x.c, .int .i64 x.e]] w fun e w' => e = .returned (.bool true) ∧ Kp w w' := by
  have H := r2Valid_any x.neg x.a x.xs x.c x.e w h.1.1 h.1.2.2.2.1 h.1.2.2.2.2
  rwa [show vld x.neg x.xs x.e = true from h.2] at H
theorem r2Checked_of (z : RD) (D : Dy) (w : World) (hr : z.rd w) (hz : z.dy = D) (hv : D.ok → z.vl = true) (hD : (chk D).1.ok) :
    Calls Tryz.prog 34 #[.agg #[.bool z.neg, .slice z.a z.xs.length z.c, .int .i64 z.e]] w (NumE w (chk D).1 (chk D).2) := by
  have H := r2Checked_any z w hr
  obtain ⟨e1, e2⟩ := chk_vl hr hz hv hD
  rwa [e1, e2] at H
set_option maxHeartbeats 2000000 in
theorem r2Sub_rd (x y : RD) (w : World) (hx : x.ok w) (hy : y.ok w) :
    Calls Tryz.prog 9 #[.agg #[.bool x.neg, .slice x.a x.xs.length x.c, .int .i64 x.e], .agg #[.bool y.neg, .slice y.a y.xs.length y.c, .int .i64 y.e]] w (NumE w (chk (sumD x.dy y.dy.opp)).1 (chk (sumD x.dy y.dy.opp)).2) := by
  have hyd := rdok_dy hy
  have hok := sumD_chk_ok x.dy y.dy.opp
  go_enter Tryz.func9, Tryz.ntmps9
  go_wp2_with fail
  generalize hW : (((w.alloc _).alloc _).alloc _) = W at *
  have hk : Kp w W := hW ▸ (((Kp.refl w).alloc _).alloc _).alloc _
  have hS : W.cell? ⟨w.heap.size, 0, none⟩ = some (.bool x.neg) ∧ W.cell? ⟨w.heap.size, 1, none⟩ = some (.slice x.a x.xs.length x.c) ∧ W.cell? ⟨w.heap.size, 2, none⟩ = some (.int .i64 x.e) ∧ W.cell? ⟨w.heap.size + 1, 0, none⟩ = some (.bool y.neg) ∧ W.cell? ⟨w.heap.size + 1, 1, none⟩ = some (.slice y.a y.xs.length y.c) ∧ W.cell? ⟨w.heap.size + 1, 2, none⟩ = some (.int .i64 y.e) := by rw [← hW]; exact keep6 ((Kp.refl _).alloc _) (by simp)
  have hB : Box3 W (w.heap.size + 2) (.bool false) (.slice none 0 0) (.int .i64 0) := hW ▸ Box3.new3 _ _ _ _ _ _ _
  clear hW
  refine (r2Valid_rok x _ (hx.kp hk)).mono ?_
  rintro e w1 ⟨rfl, hk1⟩
  have hS1 := keepRR hk1 hS
  have hB1 := hB.kp hk1
  have hk2 := hk.trans hk1
  clear hS hk hk1 hB
  go_wp2_with fail
  refine (r2Valid_rok y _ (hy.kp hk2)).mono ?_
  rintro e w2 ⟨rfl, hk3⟩
  have hk4 := (hk2.trans hk3).drew
  have hS2 := keepRR (Kp.refl w2).drew (keepRR hk3 hS1)
  have hB2 := (hB1.kp hk3).kp (Kp.refl w2).drew
  have hx4 := hx.kp hk4
  have hy4 := hy.kp hk4
  clear hS1 hk2 hk3 hB1
  go_wp2_with fail
  go_region_held3 (fun w' => w'.cell? ⟨w.heap.size, 0, none⟩ = some (.bool x.neg) ∧ w'.cell? ⟨w.heap.size, 1, none⟩ = some (.slice x.a x.xs.length x.c) ∧ w'.cell? ⟨w.heap.size, 2, none⟩ = some (.int .i64 x.e) ∧ w'.cell? ⟨w.heap.size + 1, 0, none⟩ = some (.bool y.neg) ∧ w'.cell? ⟨w.heap.size + 1, 1, none⟩ = some (.slice y.a y.xs.length y.c) ∧ w'.cell? ⟨w.heap.size + 1, 2, none⟩ = some (.int .i64 y.e)) (first | with_reducible assumption | with_reducible exact keepRR (by assumption) (by assumption) | with_reducible exact setRR (by omega) (by omega) (by assumption))
    (first
      | (go_at_call 36; refine (r2Neg_ok y _ hy4).mono ?_; rintro e w5 ⟨v, rfl, rv, hv, vv, hk5⟩)
      | (go_at_call 35; refine (r2sum_rd x v _ (hx4.kp hk5) ⟨rv, vv (Dy.opp_ok hyd)⟩).mono ?_; rw [hv]; rintro e w7 ⟨u, rfl, ru, hu, vu, hk8⟩; have hBB := (hB2.kp hk5).kp hk8)
      | (go_at_call 34; refine (r2Checked_of u _ _ ru hu vu hok).mono ?_; rintro e w6 ⟨z, rfl, rz, hz, vz, hk6⟩; obtain ⟨q0, q1, q2, f0, f1, f2⟩ := hBB.kp hk6))
  have hkk := ((hk4.trans hk5).trans hk8).trans hk6
  clear hS2 hB2 hk4
  have hst := stored q0 q1 q2 (fun _ h => by cases h) (fun _ h => by cases h) (fun _ h => by cases h) (.bool z.neg) (.slice z.a z.xs.length z.c) (.int .i64 z.e)
  go_wp2_with fail
  generalize (((w6.setCell _ _).setCell _ _).setCell _ _) = W2 at hst ⊢
  obtain ⟨s0, s1, s2, _, s4, s5, _, _⟩ := hst
  refine bodyPost_ret (v := .tuple #[.agg #[.bool z.neg, .slice z.a z.xs.length z.c, .int .i64 z.e], .int .i64 (chk (sumD x.dy y.dy.opp)).2]) (by simp [results, Tryz.results9, go_sem, s0, s1, s2]) rfl ?_
  exact ⟨z, rfl, ⟨s4 _ _ rz.1, rz.2⟩, hz, vz, s5 _ hkk (by omega)⟩
set_option maxHeartbeats 2000000 in
theorem r2Add_rd (x y : RD) (w : World) (hx : x.ok w) (hy : y.ok w) :
    Calls Tryz.prog 10 #[.agg #[.bool x.neg, .slice x.a x.xs.length x.c, .int .i64 x.e], .agg #[.bool y.neg, .slice y.a y.xs.length y.c, .int .i64 y.e]] w (NumE w (chk (sumD x.dy y.dy)).1 (chk (sumD x.dy y.dy)).2) := by
  have hyd := rdok_dy hy
  have hok := sumD_chk_ok x.dy y.dy
  go_enter Tryz.func10, Tryz.ntmps10
  go_wp2_with fail
  generalize hW : (((w.alloc _).alloc _).alloc _) = W at *
  have hk : Kp w W := hW ▸ (((Kp.refl w).alloc _).alloc _).alloc _
  have hS : W.cell? ⟨w.heap.size, 0, none⟩ = some (.bool x.neg) ∧ W.cell? ⟨w.heap.size, 1, none⟩ = some (.slice x.a x.xs.length x.c) ∧ W.cell? ⟨w.heap.size, 2, none⟩ = some (.int .i64 x.e) ∧ W.cell? ⟨w.heap.size + 1, 0, none⟩ = some (.bool y.neg) ∧ W.cell? ⟨w.heap.size + 1, 1, none⟩ = some (.slice y.a y.xs.length y.c) ∧ W.cell? ⟨w.heap.size + 1, 2, none⟩ = some (.int .i64 y.e) := by rw [← hW]; exact keep6 ((Kp.refl _).alloc _) (by simp)
  have hB : Box3 W (w.heap.size + 2) (.bool false) (.slice none 0 0) (.int .i64 0) := hW ▸ Box3.new3 _ _ _ _ _ _ _
  clear hW
  refine (r2Valid_rok x _ (hx.kp hk)).mono ?_
  rintro e w1 ⟨rfl, hk1⟩
  have hS1 := keepRR hk1 hS
  have hB1 := hB.kp hk1
  have hk2 := hk.trans hk1
  clear hS hk hk1 hB
  go_wp2_with fail
  refine (r2Valid_rok y _ (hy.kp hk2)).mono ?_
  rintro e w2 ⟨rfl, hk3⟩
  have hk4 := hk2.trans hk3
  have hS2 := keepRR hk3 hS1
  have hB2 := hB1.kp hk3
  have hx4 := hx.kp hk4
  have hy4 := hy.kp hk4
  clear hS1 hk2 hk3 hB1
  go_wp2_with fail
  refine (r2sum_rd x y _ hx4 hy4).mono ?_
  rintro e w7 ⟨u, rfl, ru, hu, vu, hk8⟩
  have hB7 := hB2.kp hk8
  have hk7 := hk4.trans hk8
  clear hS2 hB2 hk4 hk8
  go_wp2_with fail
  refine (r2Checked_of u _ _ ru hu vu hok).mono ?_
  rintro e w6 ⟨z, rfl, rz, hz, vz, hk6⟩
  obtain ⟨q0, q1, q2, f0, f1, f2⟩ := hB7.kp hk6
  have hkk := hk7.trans hk6
  clear hB7 hk7
  have hst := stored q0 q1 q2 (fun _ h => by cases h) (fun _ h => by cases h) (fun _ h => by cases h) (.bool z.neg) (.slice z.a z.xs.length z.c) (.int .i64 z.e)
  go_wp2_with fail
  generalize (((w6.setCell _ _).setCell _ _).setCell _ _) = W2 at hst ⊢
  obtain ⟨s0, s1, s2, _, s4, s5, _, _⟩ := hst
  refine bodyPost_ret (v := .tuple #[.agg #[.bool z.neg, .slice z.a z.xs.length z.c, .int .i64 z.e], .int .i64 (chk (sumD x.dy y.dy)).2]) (by simp [results, Tryz.results10, go_sem, s0, s1, s2]) rfl ?_
  exact ⟨z, rfl, ⟨s4 _ _ rz.1, rz.2⟩, hz, vz, s5 _ hkk (by omega)⟩
end Go.Proofs.YtkohlmlmoapedaaGreatDoor
end
