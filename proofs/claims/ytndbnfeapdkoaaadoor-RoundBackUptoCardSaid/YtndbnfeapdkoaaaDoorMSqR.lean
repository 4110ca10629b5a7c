/-
  Walks: round.sqrt of any number.
-/
import Derived.Test.YtndbnfeapdkoaaaDoorMRoSq
import Derived.Test.YtndbnfeapdkoaaaDoorMKnuE
import Derived.Test.YtndbnfeapdkoaaaDoorMLaw3B
namespace Go.Proofs.YtndbnfeapdkoaaaDoor
open Go.RowKit

theorem isRt_ex : (n : Nat) → ∃ s, isRt n s
  | 0 => ⟨0, by decide, by decide⟩
  | n + 1 => by
    obtain ⟨s, h1, h2⟩ := isRt_ex n
    have e1 : (s + 1 + 1) * (s + 1 + 1) = (s + 1) * (s + 1) + 2 * s + 3 := by rw [Nat.add_mul (s + 1) 1, Nat.mul_add, Nat.mul_one, Nat.one_mul]; omega
    by_cases h : (s + 1) * (s + 1) ≤ n + 1
    · exact ⟨s + 1, h, by omega⟩
    · exact ⟨s, by omega, by omega⟩
set_option maxRecDepth 100000 in
set_option maxHeartbeats 8000000 in
/-- the root of a number above 0, k + 1 more bits, where the exponent is odd with k -/
theorem sqrt_odd (x : RD) (p k s : Nat) (H : Int) (up : Bool) (w : World) (hx : x.ok w) (hx0 : val x.xs ≠ 0) (hn : x.neg = false) (hp0 : 8 ≤ p) (hp1 : p ≤ 512) (hT : Tab w)
    (hK : (k : Int) = max 0 (2 * (p : Int) + 4 - bits (val x.xs))) (hH : x.e - k = 2 * H + 1) (hs : s * s ≤ val x.xs * 2 ^ (k + 1))
    (hsq : ∀ W a c, Kp w W → Rd W a (limbs (val x.xs * 2 ^ (k + 1))) → (limbs (val x.xs * 2 ^ (k + 1))).length ≤ c → c ≤ maxLen → Calls Tryd.prog 67 #[.slice a (limbs (val x.xs * 2 ^ (k + 1))).length c] W (Nat2 W s 0)) :
    Calls Tryd.prog 35 #[.agg #[.bool x.neg, .slice x.a x.xs.length x.c, .int .i64 x.e], .int .i64 p, .bool up] w
      (NumE w (rndE (rcut s H (!decide (s * s = val x.xs * 2 ^ (k + 1))) p up)).1 (rndE (rcut s H (!decide (s * s = val x.xs * 2 ^ (k + 1))) p up)).2) := by
  have Hsq := Lib.hid hsq
  have hxl : (x.xs.length : Int) ≠ 0 := by have := (rdok_zero hx).1; intro h; exact hx0 (this (by omega))
  have hxz : ((x.xs.length : Int) == 0) = false := beq_eq_false_iff_ne.2 hxl
  have Hf := Lib.hid (show fltB p [x] = 0 from fltB_ok (by simp [hx.2]) hp0 hp1)
  have HKK := Lib.hid hK
  have HH := Lib.hid hH
  have hbx : bits (val x.xs) ≤ 4096 := dok_bits (rdok_dy hx)
  have HnB := Lib.hid (show bits (val x.xs * 2 ^ (k + 1)) ≤ 4128 by rw [bits_mul_pow hx0]; omega)
  have Hn := Lib.hid (show (limbs (val x.xs * 2 ^ (k + 1))).length ≤ 129 from limbs_of_bits HnB.out)
  have Hs := Lib.hid hs
  have Hneg := Lib.hid hn
  clear hsq hxl hK hx0 hH hs hn
  go_enter Tryd.func35, Tryd.ntmps35
  go_wp2_with fail
  generalize hW : ((w.alloc _).alloc _) = W at *
  have hk : Kp w W := hW ▸ ((Kp.refl w).alloc _).alloc _
  have hS : W.cell? ⟨w.heap.size, 0, none⟩ = some (.bool x.neg) ∧ W.cell? ⟨w.heap.size, 1, none⟩ = some (.slice x.a x.xs.length x.c) ∧ W.cell? ⟨w.heap.size, 2, none⟩ = some (.int .i64 x.e) := by rw [← hW]; simp
  have hB : Box3 W (w.heap.size + 1) (.bool false) (.slice none 0 0) (.int .i64 0) := hW ▸ Box3.new2 _ _ _ _ _ _
  have hsz : W.heap.size = w.heap.size + 1 + 1 := by rw [← hW]; simp
  clear hW
  have hka := (Kp.refl W).alloc (.cells #[.bool x.neg, .slice x.a x.xs.length x.c, .int .i64 x.e] 24)
  have hRw := rowD_one W x (hx.kp hk).1 24
  rw [hsz] at hRw
  clear hsz
  refine (fault_any p _ [x] 1 _ hRw (by simp)).mono ?_
  rw [Hf.out]
  rintro e w1 ⟨rfl, hk1⟩
  obtain ⟨t0, t1, t2⟩ := keep3 (hka.trans hk1) hS
  rw [Hneg.out] at t0
  have hB1 := hB.kp (hka.trans hk1)
  have hk2 := hk.trans (hka.trans hk1)
  have hx2 := hx.kp hk2
  clear hS hB hk hk1 hka hRw
  go_wp2_with fail
  have Hb := Bits_rok x _ hx2
  rw [Hneg.out] at Hb
  refine Hb.mono ?_
  clear Hb
  rintro e w2 ⟨rfl, hk3⟩
  have hKw : max 0 (2 * (p : Int) + 4 - (bits (val x.xs) : Int)) = (k : Int) := HKK.out.symm
  have hK2 : k ≤ 1028 := by have := HKK.out; omega
  have hH1 := HH.out
  have hH2 : x.e - ((k : Int) + 1) = 2 * H := by have := HH.out; omega
  have hel := rdok_e hx2
  have r1 := hk3.cell t1
  have r2 := hk3.cell t2
  have hB2 := hB1.kp hk3
  have hk4 := hk2.trans hk3
  have hx4 := hx2.kp hk3
  have hodd : ((2 * H + 1).tmod 2 == 0) = false := beq_eq_false_iff_ne.2 (fun h => by have := Int.dvd_of_tmod_eq_zero h; omega)
  have hodd2 : ((2 * H + 1).tmod 2 != 0) = true := by rw [bne, hodd]; rfl
  clear hB1 hk2 hk3 t1 t2 hx2
  go_wp2_with fail
  have HT1 := Lib.hid (show ((k : Int) + 1).toNat = k + 1 by omega)
  have hlen := rdok_len hx4
  refine (roshl_any x.a x.xs x.c ((k : Int) + 1) _ hx4.1.1 (by omega) hx4.1.2.1 hx4.1.2.2.1 (by omega) (by omega) (by rw [HT1.out]; exact Nat.le_trans Hn.out (by decide))).mono ?_
  rw [HT1.out]
  rintro e w3 ⟨a3, c3, rfl, l3, m3, rd3, hk5⟩
  go_wp2_with fail
  refine (Hsq.out _ a3 c3 (hk4.trans hk5) rd3 l3 m3).mono ?_
  rintro e w4 ⟨a4, c4, rfl, l4, m4, rd4, hk6⟩
  have Hsl := Lib.hid (show (limbs s).length ≤ 129 by
    refine Nat.le_trans (limbs_length_mono ?_) Hn.out
    rcases Nat.eq_zero_or_pos s with h | h
    · omega
    · exact Nat.le_trans (Nat.le_mul_of_pos_right s h) Hs.out)
  have Hmu := Lib.hid (Mul_any a4 a4 (limbs s) (limbs s) c4 c4 w4 rd4 rd4 (Nat.le_trans Hsl.out (by decide)) (Nat.le_trans Hsl.out (by decide)) l4 l4 m4 m4 (by rw [val_limbs]; exact Nat.le_trans (limbs_length_mono Hs.out) (Nat.le_trans Hn.out (by decide))))
  have hmu := Hmu.out
  rw [val_limbs] at hmu
  have Hmu2 := Lib.hid hmu
  clear hmu Hmu
  go_wp2_with fail
  refine Hmu2.out.mono ?_
  rintro e w5 ⟨a5, c5, rfl, l5, m5, rd5, hk7⟩
  have hk57 := (hk5.trans hk6).trans hk7
  have u2 := hk57.cell r2
  have hB5 := hB2.kp hk57
  have hk8 := hk4.trans hk57
  have rd3' := (rd3.kp hk6).kp hk7
  have rd4' := rd4.kp hk7
  have hT5 := hT.kp hk8
  clear r1 r2 hB2 hx4 hk4 hk5 hk6 hk7 hk57 rd3 rd4 Hmu2 Hsq
  generalize val x.xs * 2 ^ (k + 1) = N at *
  have Hcm := Lib.hid (cmp_any a5 a3 (limbs (s * s)) (limbs N) c5 c3 (w5.drew) (rd5.kp (Kp.refl w5).drew) (rd3'.kp (Kp.refl w5).drew) l5 l3 m5 m3)
  go_wp2_with fail
  have hk9 := hk8.drew
  have rd4d := rd4'.kp (Kp.refl w5).drew
  have hT9 := hT5.kp (Kp.refl w5).drew
  have hB9 := hB5.kp (Kp.refl w5).drew
  have u2d := (Kp.refl w5).drew.cell u2
  have Hcmv := Lib.hid (show (cmpN (s * s) N != 0) = !decide (s * s = N) by
    by_cases h : s * s = N
    · rw [cmpN_eq h, decide_eq_true h]; rfl
    · rw [cmpN_lt (by have := Hs.out; omega), decide_eq_false h]; rfl)
  have hEx : IntKind.i64.wrap ((IntKind.i64.wrap (2 * H)).tdiv 2) = H := by
    rw [IntWalk.i64_in (2 * H) (by omega), Int.mul_tdiv_cancel_left H (by decide), IntWalk.i64_in H (by omega)]
  have HEx := Lib.hid hEx
  have Hct := Lib.hid (fun (W : World) (mo : Bool) (hr : Rd W a4 (limbs s)) (hT : Tab W) => cut_any a4 (limbs s) c4 (IntKind.i64.wrap ((IntKind.i64.wrap (2 * H)).tdiv 2)) mo p up W hr (Nat.le_trans Hsl.out (by decide)) l4 m4 (by rw [HEx.out]; omega) (by rw [HEx.out]; omega) hp0 hp1 hT)
  clear hEx
  clear hk8 rd4' hT5 hB5 u2 rd5 rd3'
  go_region_held3 (fun w' => w'.cell? ⟨w.heap.size, 2, none⟩ = some (.int .i64 x.e)) (first | with_reducible assumption | with_reducible exact keep1 (by assumption) (by assumption) | with_reducible exact set1o (by omega) (by assumption))
    (first
      | (go_at_call 64; refine Hcm.out.mono ?_; rw [val_limbs, val_limbs]; rintro e w6 ⟨rfl, hk10⟩)
      | (go_at_call 68; refine (Hct.out _ _ (rd4d.kp hk10) (hT9.kp hk10)).mono ?_; rw [val_limbs, HEx.out, Hcmv.out]; rintro e w9 ⟨z, rfl, hzr, hzd, hzv, hk11⟩; obtain ⟨q0, q1, q2, f0, f1, f2⟩ := (hB9.kp hk10).kp hk11))
  have hkk := (hk9.trans hk10).trans hk11
  clear hB9 hk9 hk10 hk11 rd4d hT9 Hct Hcm
  have hst := stored q0 q1 q2 (fun _ h => by cases h) (fun _ h => by cases h) (fun _ h => by cases h) (.bool z.neg) (.slice z.a z.xs.length z.c) (.int .i64 z.e)
  go_wp2_with fail
  generalize (((w9.setCell _ _).setCell _ _).setCell _ _) = W2 at hst ⊢
  obtain ⟨s0, s1, s2, _, s4, s5, _, _⟩ := hst
  refine bodyPost_ret (v := .tuple #[.agg #[.bool z.neg, .slice z.a z.xs.length z.c, .int .i64 z.e], .int .i64 (rndE (rcut s H (!decide (s * s = N)) p up)).2]) (by simp [results, Tryd.results35, go_sem, s0, s1, s2]) rfl ?_
  exact ⟨z, rfl, ⟨s4 _ _ hzr.1, hzr.2⟩, hzd, hzv, s5 _ hkk (by omega)⟩
/-- the error of a root's arguments -/
def sqE (x : RD) (p : Int) : Int := if fltB p [x] = 0 then (if x.neg then 2 else 0) else fltB p [x]
set_option maxRecDepth 100000 in
set_option maxHeartbeats 8000000 in
theorem sqrt_flt (x : RD) (p : Int) (up : Bool) (w : World) (hx : x.rd w) (h0 : sqE x p ≠ 0 ∨ x.xs.length = 0) :
    Calls Tryd.prog 35 #[.agg #[.bool x.neg, .slice x.a x.xs.length x.c, .int .i64 x.e], .int .i64 p, .bool up] w (NumE w .zero (sqE x p)) := by
  have H0 := Lib.hid h0
  clear h0
  go_enter Tryd.func35, Tryd.ntmps35
  go_wp2_with fail
  generalize hW : ((w.alloc _).alloc _) = W at *
  have hk : Kp w W := hW ▸ ((Kp.refl w).alloc _).alloc _
  have hS : W.cell? ⟨w.heap.size, 0, none⟩ = some (.bool x.neg) ∧ W.cell? ⟨w.heap.size, 1, none⟩ = some (.slice x.a x.xs.length x.c) ∧ W.cell? ⟨w.heap.size, 2, none⟩ = some (.int .i64 x.e) := by rw [← hW]; simp
  have hB : Box3 W (w.heap.size + 1) (.bool false) (.slice none 0 0) (.int .i64 0) := hW ▸ Box3.new2 _ _ _ _ _ _
  have hsz : W.heap.size = w.heap.size + 1 + 1 := by rw [← hW]; simp
  clear hW
  have hka := (Kp.refl W).alloc (.cells #[.bool x.neg, .slice x.a x.xs.length x.c, .int .i64 x.e] 24)
  have hRw := rowD_one W x (hx.kp hk) 24
  rw [hsz] at hRw
  clear hsz
  refine (fault_any p _ [x] 1 _ hRw (by simp)).mono ?_
  rintro e w1 ⟨rfl, hk1⟩
  obtain ⟨t0, t1, t2⟩ := keep3 (hka.trans hk1) hS
  obtain ⟨q0, q1, q2, f0, f1, f2⟩ := hB.kp (hka.trans hk1)
  have hk2 := hk.trans (hka.trans hk1)
  clear hS hB hk hk1 hka hRw
  have hst := stored q0 q1 q2 (fun _ h => by cases h) (fun _ h => by cases h) (fun _ h => by cases h) (.bool false) (.slice none 0 0) (.int .i64 0)
  by_cases hf : fltB p [x] = 0
  · rw [hf]
    cases hn : x.neg with
    | true =>
      have HE := Lib.hid (show sqE x p = 2 by unfold sqE; rw [if_pos hf, hn]; rfl)
      rw [hn] at t0
      clear hf hn H0
      go_wp2_with fail
      generalize (((w1.setCell _ _).setCell _ _).setCell _ _) = W9 at hst ⊢
      obtain ⟨s0, s1, s2, _, s4, s5, _, _⟩ := hst
      refine bodyPost_ret (v := .tuple #[.agg #[.bool false, .slice none 0 0, .int .i64 0], .int .i64 2]) (by simp [results, Tryd.results35, go_sem, s0, s1, s2]) rfl ?_
      rw [HE.out]
      exact numE_zero rfl (s5 _ hk2 (by omega))
    | false =>
      have HE := Lib.hid (show sqE x p = 0 by unfold sqE; rw [if_pos hf, hn]; rfl)
      have hl : x.xs.length = 0 := H0.out.resolve_left (fun h => h HE.out)
      have hz : ((x.xs.length : Int) == 0) = true := beq_iff_eq.2 (by omega)
      rw [hn] at t0
      clear hf hn H0 hl
      go_wp2_with fail
      generalize (((w1.setCell _ _).setCell _ _).setCell _ _) = W9 at hst ⊢
      obtain ⟨s0, s1, s2, _, s4, s5, _, _⟩ := hst
      refine bodyPost_ret (v := .tuple #[.agg #[.bool false, .slice none 0 0, .int .i64 0], .int .i64 0]) (by simp [results, Tryd.results35, go_sem, s0, s1, s2]) rfl ?_
      rw [HE.out]
      exact numE_zero rfl (s5 _ hk2 (by omega))
  · have hz : (fltB p [x] == 0) = false := beq_eq_false_iff_ne.2 hf
    have hz2 : (fltB p [x] != 0) = true := by rw [bne, hz]; rfl
    have HE := Lib.hid (show sqE x p = fltB p [x] by unfold sqE; rw [if_neg hf])
    clear hf H0
    go_wp2_with fail
    generalize (((w1.setCell _ _).setCell _ _).setCell _ _) = W9 at hst ⊢
    obtain ⟨s0, s1, s2, _, s4, s5, _, _⟩ := hst
    refine bodyPost_ret (v := .tuple #[.agg #[.bool false, .slice none 0 0, .int .i64 0], .int .i64 (fltB p [x])]) (by simp [results, Tryd.results35, go_sem, s0, s1, s2]) rfl ?_
    rw [HE.out]
    exact numE_zero rfl (s5 _ hk2 (by omega))
theorem sqrt_call (x : RD) (K : Nat) (w : World) (hx0 : val x.xs ≠ 0) (hb : bits (val x.xs * 2 ^ K) ≤ 6000) {s : Nat} (hs : isRt (val x.xs * 2 ^ K) s) :
    ∀ W a c, Kp w W → Rd W a (limbs (val x.xs * 2 ^ K)) → (limbs (val x.xs * 2 ^ K)).length ≤ c → c ≤ maxLen → Calls Tryd.prog 67 #[.slice a (limbs (val x.xs * 2 ^ K)).length c] W (Nat2 W s 0) := by
  intro W a c _ h1 h2 h3
  have hl : (limbs (val x.xs * 2 ^ K)).length ≤ 200 := limbs_of_bits (by omega)
  have hn0 : val x.xs * 2 ^ K ≠ 0 := Nat.mul_ne_zero hx0 (Nat.ne_of_gt (two_pow_pos K))
  refine (Sqrt_of a (limbs (val x.xs * 2 ^ K)) c W h1 hl h2 h3 (by rw [val_limbs]; exact hn0) (fun W' b ys d hk' hy hyd hd _ hy0 _ => divide_any a b _ ys c d W' (h1.kp hk') hy (by omega) h2 hyd h3 hd (by omega))).mono ?_
  rintro e w' ⟨t, ht, h⟩
  rw [val_limbs] at ht
  rw [ht.unique hs] at h
  exact h
/-- the root of a number above 0 -/
theorem sqrt_nz (x : RD) (p : Nat) (w0 : World) (hx : x.ok w0) (hx0 : val x.xs ≠ 0) (hn : x.neg = false) (hp0 : 8 ≤ p) (hp1 : p ≤ 512) :
    ∃ D : Bool → Dy, (∀ up w, x.rd w → Tab w → Calls Tryd.prog 35 #[.agg #[.bool x.neg, .slice x.a x.xs.length x.c, .int .i64 x.e], .int .i64 p, .bool up] w (NumE w (D up) 0)) ∧ ∀ up, sqS x p up (D up) := by
  have hbx : bits (val x.xs) ≤ 4096 := dok_bits (rdok_dy hx)
  have hd := rdok_dy hx
  have hr : -16384 ≤ x.e ∧ (bits (val x.xs) : Int) + x.e ≤ 16384 := by
    rcases hd with h | h
    · exact absurd h.1 hx0
    · obtain ⟨h1, h2, h3, h4, h5⟩ := h
      have h3' : -16384 ≤ x.e := h3
      have h5' : (bits (val x.xs) : Int) + x.e ≤ 16384 := h5
      exact ⟨h3', h5'⟩
  have main : ∀ K H, 2 * p + 4 ≤ bits (val x.xs) + K → K ≤ 1029 → x.e - K = 2 * H →
      (∀ s up w, isRt (val x.xs * 2 ^ K) s → x.rd w → Tab w → Calls Tryd.prog 35 #[.agg #[.bool x.neg, .slice x.a x.xs.length x.c, .int .i64 x.e], .int .i64 p, .bool up] w
        (NumE w (rndE (rcut s H (!decide (s * s = val x.xs * 2 ^ K)) p up)).1 (rndE (rcut s H (!decide (s * s = val x.xs * 2 ^ K)) p up)).2)) →
      ∃ D : Bool → Dy, (∀ up w, x.rd w → Tab w → Calls Tryd.prog 35 #[.agg #[.bool x.neg, .slice x.a x.xs.length x.c, .int .i64 x.e], .int .i64 p, .bool up] w (NumE w (D up) 0)) ∧ ∀ up, sqS x p up (D up) := by
    intro K H hK hK2 hH hc
    obtain ⟨s, hs⟩ := isRt_ex (val x.xs * 2 ^ K)
    obtain ⟨⟨d1, a1, a2, a3, a4⟩, d2, b1, b2, b3, b4⟩ := root_spec hx0 hbx hr.1 hr.2 hp0 hp1 hK hK2 hH hs
    have hiv : x.iv = sg false (val x.xs * 2 ^ (x.e + 16384).toNat) := by
      show sg x.neg _ = _
      rw [hn]; rfl
    refine ⟨fun up => if up then d2 else d1, fun up w hw hT => ?_, fun up => ?_⟩
    · have h := hc s up w hs hw hT
      cases up with
      | false => rw [a1] at h; exact h
      | true => rw [b1] at h; exact h
    · cases up with
      | false => exact ⟨a2, a3, by rw [hiv]; exact a4⟩
      | true => exact ⟨b2, b3, by rw [hiv]; exact b4⟩
  obtain ⟨k, hk⟩ : ∃ k : Nat, (k : Int) = max 0 (2 * (p : Int) + 4 - bits (val x.xs)) := ⟨(2 * (p : Int) + 4 - bits (val x.xs)).toNat, by omega⟩
  rcases (show (x.e - k) % 2 = 0 ∨ (x.e - k) % 2 = 1 by omega) with h | h
  · refine main k ((x.e - k) / 2) (by omega) (by omega) (by omega) fun s up w hs hw hT => ?_
    exact sqrt_of x p k s ((x.e - k) / 2) up w ⟨hw, hx.2⟩ hx0 hn hp0 hp1 hT hk (by omega) hs.1 (sqrt_call x k w hx0 (by rw [bits_mul_pow hx0]; omega) hs)
  · refine main (k + 1) ((x.e - k - 1) / 2) (by omega) (by omega) (by omega) fun s up w hs hw hT => ?_
    exact sqrt_odd x p k s ((x.e - k - 1) / 2) up w ⟨hw, hx.2⟩ hx0 hn hp0 hp1 hT hk (by omega) hs.1 (sqrt_call x (k + 1) w hx0 (by rw [bits_mul_pow hx0]; omega) hs)
/-- the root of any number -/
theorem sqrt_rd (x : RD) (p : Int) (w0 : World) (hx : x.rd w0) :
    ∃ D : Bool → Dy, (∀ up w, x.rd w → Tab w → Calls Tryd.prog 35 #[.agg #[.bool x.neg, .slice x.a x.xs.length x.c, .int .i64 x.e], .int .i64 p, .bool up] w (NumE w (D up) (sqE x p))) ∧ (∀ up, (D up).ok) ∧ (sqE x p = 0 → ∀ up, sqS x p.toNat up (D up)) := by
  by_cases h : sqE x p ≠ 0 ∨ x.xs.length = 0
  · refine ⟨fun _ => .zero, fun up w hw _ => sqrt_flt x p up w hw h, fun _ => Dy.ok_zero, fun h0 up => ?_⟩
    have hl := h.resolve_left (fun k => k h0)
    exact sqS_zero p.toNat up (by rw [List.length_eq_zero_iff.1 hl]; rfl)
  · have h1 : sqE x p = 0 := Classical.byContradiction fun k => h (.inl k)
    have hl : x.xs.length ≠ 0 := fun k => h (.inr k)
    have h2 := h1
    unfold sqE at h2
    split at h2
    · next hf =>
      obtain ⟨hv, hp0, hp1⟩ := fltB_zero.1 hf
      have hxo : x.ok w0 := ⟨hx, by simpa using (List.all_eq_true.1 hv) x (by simp)⟩
      have hn : x.neg = false := by
        cases hn : x.neg with
        | false => rfl
        | true => rw [hn] at h2; cases h2
      obtain ⟨q, rfl⟩ := Int.eq_ofNat_of_zero_le (show 0 ≤ p by omega)
      obtain ⟨D, h3, h4⟩ := sqrt_nz x q w0 hxo (fun h => hl ((rdok_zero hxo).2 h)) hn (by omega) (by omega)
      refine ⟨D, fun up w hw hT => by rw [h1]; exact h3 up w hw hT, fun up => (h4 up).1.1, fun _ up => h4 up⟩
    · next hf => exact absurd h2 hf
end Go.Proofs.YtndbnfeapdkoaaaDoor
