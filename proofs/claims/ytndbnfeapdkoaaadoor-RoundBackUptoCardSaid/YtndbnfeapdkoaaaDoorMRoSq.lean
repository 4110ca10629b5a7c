/-
  Walks: round.sqrt of a number that is not 0, from a contract of natural.Sqrt.
-/
import Derived.Test.YtndbnfeapdkoaaaDoorMRoDiv
namespace Go.Proofs.YtndbnfeapdkoaaaDoor
open Go.RowKit

theorem set1o {w : World} {b g i : Nat} (n : b ≠ g) {v x0 x1 x2 : Value} (h : w.cell? ⟨b, i, none⟩ = some v) : (((w.setCell ⟨g, 0, none⟩ x0).setCell ⟨g, 1, none⟩ x1).setCell ⟨g, 2, none⟩ x2).cell? ⟨b, i, none⟩ = some v := by
  have d (j : Nat) : (⟨g, j, none⟩ : Addr) ≠ ⟨b, i, none⟩ := fun e => n (by injection e with e _; exact e.symm)
  rw [cell_set_ne (d 2), cell_set_ne (d 1), cell_set_ne (d 0)]; exact h
theorem keep1 {w w' : World} (k : Kp w w') {p : Addr} {v : Value} (h : w.cell? p = some v) : w'.cell? p = some v := k.cell h
set_option maxRecDepth 100000 in
set_option maxHeartbeats 8000000 in
/-- the root of a number above 0, K more bits, where the exponent is even with these -/
theorem sqrt_of (x : RD) (p K s : Nat) (H : Int) (up : Bool) (w : World) (hx : x.ok w) (hx0 : val x.xs ≠ 0) (hn : x.neg = false) (hp0 : 8 ≤ p) (hp1 : p ≤ 512) (hT : Tab w)
    (hK : (K : Int) = max 0 (2 * (p : Int) + 4 - bits (val x.xs))) (hH : x.e - K = 2 * H) (hs : s * s ≤ val x.xs * 2 ^ K)
    (hsq : ∀ W a c, Kp w W → Rd W a (limbs (val x.xs * 2 ^ K)) → (limbs (val x.xs * 2 ^ K)).length ≤ c → c ≤ maxLen → Calls Tryd.prog 67 #[.slice a (limbs (val x.xs * 2 ^ K)).length c] W (Nat2 W s 0)) :
    Calls Tryd.prog 35 #[.agg #[.bool x.neg, .slice x.a x.xs.length x.c, .int .i64 x.e], .int .i64 p, .bool up] w
      (NumE w (rndE (rcut s H (!decide (s * s = val x.xs * 2 ^ K)) p up)).1 (rndE (rcut s H (!decide (s * s = val x.xs * 2 ^ K)) p up)).2) := by
  have Hsq := Lib.hid hsq
  have hxl : (x.xs.length : Int) ≠ 0 := by have := (rdok_zero hx).1; intro h; exact hx0 (this (by omega))
  have hxz : ((x.xs.length : Int) == 0) = false := beq_eq_false_iff_ne.2 hxl
  have Hf := Lib.hid (show fltB p [x] = 0 from fltB_ok (by simp [hx.2]) hp0 hp1)
  have HKK := Lib.hid hK
  have HH := Lib.hid hH
  have hbx : bits (val x.xs) ≤ 4096 := dok_bits (rdok_dy hx)
  have HnB := Lib.hid (show bits (val x.xs * 2 ^ K) ≤ 4096 by rw [bits_mul_pow hx0]; omega)
  have Hn := Lib.hid (show (limbs (val x.xs * 2 ^ K)).length ≤ 128 from limbs_of_bits HnB.out)
  have Hs := Lib.hid hs
  have Hneg := Lib.hid hn
  clear hsq hxl hK hx0 hH hs hn
  go_enter Tryd.func35, Tryd.ntmps35
  go_wp2_with fail
  generalize hW : ((w.alloc _).alloc _) = W at *
  have hk : Kp w W := hW ▸ ((Kp.refl w).alloc _).alloc _
  have hS : W.cell? ⟨w.heap.size, 0, none⟩ = some (.bool x.neg) ∧ W.cell? ⟨w.heap.size, 1, none⟩ = some (.slice x.a x.xs.length x.c) ∧ W.cell? ⟨w.heap.size, 2, none⟩ = some (.int .i64 x.e) := by rw [← hW]; simp
  have hB : Box3 W (w.heap.size + 1) (.bool false) (.slice none 0 0) (.int .i64 0) := hW ▸ Box3.new2 _ _ _ _ _ _
  have hsz : W.heap.size = w.heap.size + 1 + 1 := by rw [← hW]; simp
  clear hW
  have hka := (Kp.refl W).alloc (.cells #[.bool x.neg, .slice x.a x.xs.length x.c, .int .i64 x.e] 24)
  have hRw := rowD_one W x (hx.kp hk).1 24
  rw [hsz] at hRw
  clear hsz
  refine (fault_any p _ [x] 1 _ hRw (by simp)).mono ?_
  rw [Hf.out]
  rintro e w1 ⟨rfl, hk1⟩
  obtain ⟨t0, t1, t2⟩ := keep3 (hka.trans hk1) hS
  rw [Hneg.out] at t0
  have hB1 := hB.kp (hka.trans hk1)
  have hk2 := hk.trans (hka.trans hk1)
  have hx2 := hx.kp hk2
  clear hS hB hk hk1 hka hRw
  go_wp2_with fail
  have Hb := Bits_rok x _ hx2
  rw [Hneg.out] at Hb
  refine Hb.mono ?_
  clear Hb
  rintro e w2 ⟨rfl, hk3⟩
  have hKw : max 0 (2 * (p : Int) + 4 - (bits (val x.xs) : Int)) = (K : Int) := HKK.out.symm
  have hK2 : K ≤ 1028 := by have := HKK.out; omega
  have hH1 := HH.out
  have hel := rdok_e hx2
  have r1 := hk3.cell t1
  have r2 := hk3.cell t2
  have hB2 := hB1.kp hk3
  have hk4 := hk2.trans hk3
  have hx4 := hx2.kp hk3
  clear hB1 hk2 hk3 t1 t2 hx2
  go_wp2_with fail
  have hlen := rdok_len hx4
  refine (roshl_any x.a x.xs x.c (K : Int) _ hx4.1.1 (by omega) hx4.1.2.1 hx4.1.2.2.1 (by omega) (by omega) (by rw [Int.toNat_natCast]; exact Nat.le_trans Hn.out (by decide))).mono ?_
  rw [Int.toNat_natCast]
  rintro e w3 ⟨a3, c3, rfl, l3, m3, rd3, hk5⟩
  go_wp2_with fail
  refine (Hsq.out _ a3 c3 (hk4.trans hk5) rd3 l3 m3).mono ?_
  rintro e w4 ⟨a4, c4, rfl, l4, m4, rd4, hk6⟩
  have Hsl := Lib.hid (show (limbs s).length ≤ 128 by
    refine Nat.le_trans (limbs_length_mono ?_) Hn.out
    rcases Nat.eq_zero_or_pos s with h | h
    · omega
    · exact Nat.le_trans (Nat.le_mul_of_pos_right s h) Hs.out)
  have Hmu := Lib.hid (Mul_any a4 a4 (limbs s) (limbs s) c4 c4 w4 rd4 rd4 (Nat.le_trans Hsl.out (by decide)) (Nat.le_trans Hsl.out (by decide)) l4 l4 m4 m4 (by rw [val_limbs]; exact Nat.le_trans (limbs_length_mono Hs.out) (Nat.le_trans Hn.out (by decide))))
  have hmu := Hmu.out
  rw [val_limbs] at hmu
  have Hmu2 := Lib.hid hmu
  clear hmu Hmu
  go_wp2_with fail
  refine Hmu2.out.mono ?_
  rintro e w5 ⟨a5, c5, rfl, l5, m5, rd5, hk7⟩
  have hk57 := (hk5.trans hk6).trans hk7
  have u2 := hk57.cell r2
  have hB5 := hB2.kp hk57
  have hk8 := hk4.trans hk57
  have rd3' := (rd3.kp hk6).kp hk7
  have rd4' := rd4.kp hk7
  have hT5 := hT.kp hk8
  clear r1 r2 hB2 hx4 hk4 hk5 hk6 hk7 hk57 rd3 rd4 Hmu2 Hsq
  generalize val x.xs * 2 ^ K = N at *
  have Hcm := Lib.hid (cmp_any a5 a3 (limbs (s * s)) (limbs N) c5 c3 (w5.drew) (rd5.kp (Kp.refl w5).drew) (rd3'.kp (Kp.refl w5).drew) l5 l3 m5 m3)
  go_wp2_with fail
  have hk9 := hk8.drew
  have rd4d := rd4'.kp (Kp.refl w5).drew
  have hT9 := hT5.kp (Kp.refl w5).drew
  have hB9 := hB5.kp (Kp.refl w5).drew
  have u2d := (Kp.refl w5).drew.cell u2
  have Hcmv := Lib.hid (show (cmpN (s * s) N != 0) = !decide (s * s = N) by
    by_cases h : s * s = N
    · rw [cmpN_eq h, decide_eq_true h]; rfl
    · rw [cmpN_lt (by have := Hs.out; omega), decide_eq_false h]; rfl)
  have hEx : IntKind.i64.wrap ((IntKind.i64.wrap (2 * H)).tdiv 2) = H := by
    rw [IntWalk.i64_in (2 * H) (by omega), Int.mul_tdiv_cancel_left H (by decide), IntWalk.i64_in H (by omega)]
  have HEx := Lib.hid hEx
  have Hct := Lib.hid (fun (W : World) (mo : Bool) (hr : Rd W a4 (limbs s)) (hT : Tab W) => cut_any a4 (limbs s) c4 (IntKind.i64.wrap ((IntKind.i64.wrap (2 * H)).tdiv 2)) mo p up W hr (Nat.le_trans Hsl.out (by decide)) l4 m4 (by rw [HEx.out]; omega) (by rw [HEx.out]; omega) hp0 hp1 hT)
  clear hEx
  clear hk8 rd4' hT5 hB5 u2 rd5 rd3'
  go_region_held3 (fun w' => w'.cell? ⟨w.heap.size, 2, none⟩ = some (.int .i64 x.e)) (first | with_reducible assumption | with_reducible exact keep1 (by assumption) (by assumption) | with_reducible exact set1o (by omega) (by assumption))
    (first
      | (go_at_call 64; refine Hcm.out.mono ?_; rw [val_limbs, val_limbs]; rintro e w6 ⟨rfl, hk10⟩)
      | (go_at_call 68; refine (Hct.out _ _ (rd4d.kp hk10) (hT9.kp hk10)).mono ?_; rw [val_limbs, HEx.out, Hcmv.out]; rintro e w9 ⟨z, rfl, hzr, hzd, hzv, hk11⟩; obtain ⟨q0, q1, q2, f0, f1, f2⟩ := (hB9.kp hk10).kp hk11))
  have hkk := (hk9.trans hk10).trans hk11
  clear hB9 hk9 hk10 hk11 rd4d hT9 Hct Hcm
  have hst := stored q0 q1 q2 (fun _ h => by cases h) (fun _ h => by cases h) (fun _ h => by cases h) (.bool z.neg) (.slice z.a z.xs.length z.c) (.int .i64 z.e)
  go_wp2_with fail
  generalize (((w9.setCell _ _).setCell _ _).setCell _ _) = W2 at hst ⊢
  obtain ⟨s0, s1, s2, _, s4, s5, _, _⟩ := hst
  refine bodyPost_ret (v := .tuple #[.agg #[.bool z.neg, .slice z.a z.xs.length z.c, .int .i64 z.e], .int .i64 (rndE (rcut s H (!decide (s * s = N)) p up)).2]) (by simp [results, Tryd.results35, go_sem, s0, s1, s2]) rfl ?_
  exact ⟨z, rfl, ⟨s4 _ _ hzr.1, hzr.2⟩, hzd, hzv, s5 _ hkk (by omega)⟩
end Go.Proofs.YtndbnfeapdkoaaaDoor
