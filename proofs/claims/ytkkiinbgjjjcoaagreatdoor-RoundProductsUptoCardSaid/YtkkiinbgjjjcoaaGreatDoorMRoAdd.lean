/-
  Walks: round.add.
-/
import Derived.Test.YtkkiinbgjjjcoaaGreatDoorMRoSum
namespace Go.Proofs.YtkkiinbgjjjcoaaGreatDoor
open Go.RowKit

/-- a sum, rounded -/
def addB (x y : RD) (p : Int) (up : Bool) : Dy × Int :=
  if fltB p [x, y] = 0 then rndE (rnd 0 (x.iv + y.iv) p.toNat up) else (.zero, fltB p [x, y])
set_option maxRecDepth 100000 in
set_option maxHeartbeats 16000000 in
theorem add_rd (x y : RD) (p : Int) (up : Bool) (w : World) (hx : x.rd w) (hy : y.rd w) (hT : Tab w) :
    Calls Tryz.prog 26 #[.agg #[.bool x.neg, .slice x.a x.xs.length x.c, .int .i64 x.e], .agg #[.bool y.neg, .slice y.a y.xs.length y.c, .int .i64 y.e], .int .i64 p, .bool up] w (NumE w (addB x y p up).1 (addB x y p up).2) := by
  obtain ⟨D, hD⟩ : ∃ D, D = addB x y p up := ⟨_, rfl⟩
  have HD := Lib.hid hD
  rw [← hD]
  clear hD
  go_enter Tryz.func26, Tryz.ntmps26
  go_wp2_with fail
  generalize hW : (((w.alloc _).alloc _).alloc _) = W at *
  have hk : Kp w W := hW ▸ (((Kp.refl w).alloc _).alloc _).alloc _
  have hS : W.cell? ⟨w.heap.size, 0, none⟩ = some (.bool x.neg) ∧ W.cell? ⟨w.heap.size, 1, none⟩ = some (.slice x.a x.xs.length x.c) ∧ W.cell? ⟨w.heap.size, 2, none⟩ = some (.int .i64 x.e) ∧ W.cell? ⟨w.heap.size + 1, 0, none⟩ = some (.bool y.neg) ∧ W.cell? ⟨w.heap.size + 1, 1, none⟩ = some (.slice y.a y.xs.length y.c) ∧ W.cell? ⟨w.heap.size + 1, 2, none⟩ = some (.int .i64 y.e) := by rw [← hW]; exact keep6 ((Kp.refl _).alloc _) (by simp)
  have hB : Box3 W (w.heap.size + 2) (.bool false) (.slice none 0 0) (.int .i64 0) := hW ▸ Box3.new3 _ _ _ _ _ _ _
  have hsz : W.heap.size = w.heap.size + 1 + 1 + 1 := by rw [← hW]; simp
  have hBX : Box3 W w.heap.size (.bool x.neg) (.slice x.a x.xs.length x.c) (.int .i64 x.e) := hW ▸ ((Box3.new w _ _ _ _).kp ((Kp.refl _).alloc _)).kp ((Kp.refl _).alloc _)
  have hBY : Box3 W (w.heap.size + 1) (.bool y.neg) (.slice y.a y.xs.length y.c) (.int .i64 y.e) := hW ▸ (Box3.new2 _ _ _ _ _ _).kp ((Kp.refl _).alloc _)
  clear hW
  have hka := (Kp.refl W).alloc (.cells #[.bool x.neg, .slice x.a x.xs.length x.c, .int .i64 x.e, .bool y.neg, .slice y.a y.xs.length y.c, .int .i64 y.e] 24)
  have hRw := rowD_two W x y (hx.kp hk) (hy.kp hk) 24
  rw [hsz] at hRw
  clear hsz
  refine (fault_any p _ [x, y] 2 _ hRw (by simp)).mono ?_
  rintro e w1 ⟨rfl, hk1⟩
  have hS1 := keepRR (hka.trans hk1) hS
  have hB1 := hB.kp (hka.trans hk1)
  have hBX1 := hBX.kp (hka.trans hk1)
  have hBY1 := hBY.kp (hka.trans hk1)
  have hk2 := hk.trans (hka.trans hk1)
  clear hS hB hk hk1 hka hRw hBX hBY
  by_cases h0 : fltB p [x, y] = 0
  · obtain ⟨hv, hp0, hp1⟩ := fltB_zero.1 h0
    obtain ⟨q, rfl⟩ := Int.eq_ofNat_of_zero_le (show 0 ≤ p by omega)
    have hxo : x.ok w1 := ⟨hx.kp hk2, by simpa using (List.all_eq_true.1 hv) x (by simp)⟩
    have hyo : y.ok w1 := ⟨hy.kp hk2, by simpa using (List.all_eq_true.1 hv) y (by simp)⟩
    have HD2 := Lib.hid (show D = rndE (rnd 0 (x.iv + y.iv) q up) by rw [HD.out]; unfold addB; rw [if_pos h0]; rfl)
    rw [h0]
    clear h0 hv
    have hT1 := hT.kp hk2
    by_cases hx0 : x.xs.length = 0
    · have hz : ((x.xs.length : Int) == 0) = true := beq_iff_eq.2 (by omega)
      have HD3 := Lib.hid (show D = rndB y (q : Int) up by
        rw [HD2.out, rndB_rnd hyo hp0 hp1]
        have : x.iv = 0 := Dy.iv_eq_zero.2 ((rdok_zero hxo).1 hx0)
        rw [this, Int.zero_add]; rfl)
      obtain ⟨s0, s1, s2, t0, t1, t2⟩ := hS1
      clear hx0 hBX1 hBY1
      go_wp2_with fail
      refine (Round_any y (q : Int) up _ hyo.1 hT1).mono ?_
      rintro e w9 ⟨z, rfl, hzr, hzd, hzv, hk9⟩
      obtain ⟨q0, q1, q2, f0, f1, f2⟩ := hB1.kp hk9
      have hkk := hk2.trans hk9
      clear s0 s1 s2 t0 t1 t2
      have hst := stored q0 q1 q2 (fun _ h => by cases h) (fun _ h => by cases h) (fun _ h => by cases h) (.bool z.neg) (.slice z.a z.xs.length z.c) (.int .i64 z.e)
      go_wp2_with fail
      generalize (((w9.setCell _ _).setCell _ _).setCell _ _) = W2 at hst ⊢
      obtain ⟨s0, s1, s2, _, s4, s5, _, _⟩ := hst
      refine bodyPost_ret (v := .tuple #[.agg #[.bool z.neg, .slice z.a z.xs.length z.c, .int .i64 z.e], .int .i64 (rndB y (q : Int) up).2]) (by simp [results, Tryz.results26, go_sem, s0, s1, s2]) rfl ?_
      rw [HD3.out]
      exact ⟨z, rfl, ⟨s4 _ _ hzr.1, hzr.2⟩, hzd, hzv, s5 _ hkk (by omega)⟩
    · have hz : ((x.xs.length : Int) == 0) = false := beq_eq_false_iff_ne.2 (by omega)
      have hxm := Lib.hid (show x.dy.m ≠ 0 from fun h => hx0 ((rdok_zero hxo).2 h))
      clear hx0
      by_cases hy0 : y.xs.length = 0
      · have hz2 : ((y.xs.length : Int) == 0) = true := beq_iff_eq.2 (by omega)
        have HD3 := Lib.hid (show D = rndB x (q : Int) up by
          rw [HD2.out, rndB_rnd hxo hp0 hp1]
          have : y.iv = 0 := Dy.iv_eq_zero.2 ((rdok_zero hyo).1 hy0)
          rw [this, Int.add_zero]; rfl)
        obtain ⟨s0, s1, s2, t0, t1, t2⟩ := hS1
        clear hy0 hBX1 hBY1
        go_wp2_with fail
        refine (Round_any x (q : Int) up _ hxo.1 hT1).mono ?_
        rintro e w9 ⟨z, rfl, hzr, hzd, hzv, hk9⟩
        obtain ⟨q0, q1, q2, f0, f1, f2⟩ := hB1.kp hk9
        have hkk := hk2.trans hk9
        clear s0 s1 s2 t0 t1 t2
        have hst := stored q0 q1 q2 (fun _ h => by cases h) (fun _ h => by cases h) (fun _ h => by cases h) (.bool z.neg) (.slice z.a z.xs.length z.c) (.int .i64 z.e)
        go_wp2_with fail
        generalize (((w9.setCell _ _).setCell _ _).setCell _ _) = W2 at hst ⊢
        obtain ⟨s0, s1, s2, _, s4, s5, _, _⟩ := hst
        refine bodyPost_ret (v := .tuple #[.agg #[.bool z.neg, .slice z.a z.xs.length z.c, .int .i64 z.e], .int .i64 (rndB x (q : Int) up).2]) (by simp [results, Tryz.results26, go_sem, s0, s1, s2]) rfl ?_
        rw [HD3.out]
        exact ⟨z, rfl, ⟨s4 _ _ hzr.1, hzr.2⟩, hzd, hzv, s5 _ hkk (by omega)⟩
      · have hz2 : ((y.xs.length : Int) == 0) = false := beq_eq_false_iff_ne.2 (by omega)
        have hym := Lib.hid (show y.dy.m ≠ 0 from fun h => hy0 ((rdok_zero hyo).2 h))
        clear hy0
        obtain ⟨s0, s1, s2, t0, t1, t2⟩ := id hS1
        go_wp2_with fail
        clear s0 s1 s2 t0 t1 t2
        have hx2 := hxo.drew
        have hy2 := hyo.drew
        have hT2 := hT1.kp (Kp.refl w1).drew
        have hS2 := keepRR (Kp.refl w1).drew hS1
        have hB2 := hB1.kp (Kp.refl w1).drew
        have hBX2 := hBX1.kp (Kp.refl w1).drew
        have hBY2 := hBY1.kp (Kp.refl w1).drew
        have hk3 := hk2.drew
        have RX := Lib.hid hx2
        have RY := Lib.hid hy2
        clear hxo hyo hT1 hS1 hB1 hBX1 hBY1 hk2
        go_region_held3 (fun w' => w'.cell? ⟨w.heap.size, 0, none⟩ = some (.bool x.neg) ∧ w'.cell? ⟨w.heap.size, 1, none⟩ = some (.slice x.a x.xs.length x.c) ∧ w'.cell? ⟨w.heap.size, 2, none⟩ = some (.int .i64 x.e) ∧ w'.cell? ⟨w.heap.size + 1, 0, none⟩ = some (.bool y.neg) ∧ w'.cell? ⟨w.heap.size + 1, 1, none⟩ = some (.slice y.a y.xs.length y.c) ∧ w'.cell? ⟨w.heap.size + 1, 2, none⟩ = some (.int .i64 y.e)) (first | with_reducible assumption | with_reducible exact keepRR (by assumption) (by assumption))
          (first
            | (go_at_call 45; (with_reducible refine (Top_rok x _ RX.out).mono ?_); rintro e w4 ⟨rfl, hk5⟩)
            | (go_at_call 45; (with_reducible refine (Top_rok y _ (RY.out.kp hk5)).mono ?_); rintro e w5 ⟨rfl, hk6⟩)
            | fail)
        have hkk := hk5.trans hk6
        have hx5 := hx2.kp hkk
        have hy5 := hy2.kp hkk
        have hT5 := hT2.kp hkk
        have B1 := Lib.hid (hBX2.kp hkk)
        have B2 := Lib.hid (hBY2.kp hkk)
        have hB5 := hB2.kp hkk
        have hk7 := hk3.trans hkk
        clear hx2 hy2 hT2 hS2 hB2 hBX2 hBY2 hk3 hk5 hk6 hkk RX RY
        go_upto_if 48 with fail
        go_cut [] from 10 (fun wx => ∃ X Y : RD, (wx.cell? ⟨w.heap.size, 0, none⟩ = some (.bool X.neg) ∧ wx.cell? ⟨w.heap.size, 1, none⟩ = some (.slice X.a X.xs.length X.c) ∧ wx.cell? ⟨w.heap.size, 2, none⟩ = some (.int .i64 X.e) ∧ wx.cell? ⟨w.heap.size + 1, 0, none⟩ = some (.bool Y.neg) ∧ wx.cell? ⟨w.heap.size + 1, 1, none⟩ = some (.slice Y.a Y.xs.length Y.c) ∧ wx.cell? ⟨w.heap.size + 1, 2, none⟩ = some (.int .i64 Y.e)) ∧ X.ok wx ∧ Y.ok wx ∧ X.dy.m ≠ 0 ∧ Y.dy.m ≠ 0 ∧ topI Y.dy ≤ topI X.dy ∧ X.iv + Y.iv = x.iv + y.iv ∧ Box3 wx (w.heap.size + 2) (.bool false) (.slice none 0 0) (.int .i64 0) ∧ Kp w wx)
        case first =>
          obtain ⟨q0, q1, q2, f0, f1, f2⟩ := B1.out
          obtain ⟨r0, r1, r2, g0, g1, g2⟩ := B2.out
          by_cases hc : topI x.dy < topI y.dy
          · have Hc := Lib.hid hc
            have hst := Lib.hid (stored q0 q1 q2 (fun _ h => by cases h) (fun _ h => by cases h) (fun _ h => by cases h) (.bool y.neg) (.slice y.a y.xs.length y.c) (.int .i64 y.e))
            have Hst2 := Lib.hid (fun (W : World) z0 z1 z2 => stored (w := W) (g := w.heap.size + 1) (y0 := .bool y.neg) (y1 := .slice y.a y.xs.length y.c) (y2 := .int .i64 y.e) z0 z1 z2 (fun _ h => by cases h) (fun _ h => by cases h) (fun _ h => by cases h) (.bool x.neg) (.slice x.a x.xs.length x.c) (.int .i64 x.e))
            have Hr := Lib.hid (And.intro r0 (And.intro r1 r2))
            go_wp2_with fail
            go_meet
            case rel =>
              obtain ⟨s0, s1, s2, _, s4, s5, s6, _⟩ := hst.out
              obtain ⟨r0, r1, r2⟩ := Hr.out
              have ne : w.heap.size + 1 ≠ w.heap.size := by omega
              obtain ⟨a0, a1, a2⟩ := set3x ne ⟨r0, r1, r2⟩
              obtain ⟨u0, u1, u2, _, u4, u5, u6, _⟩ := Hst2.out _ a0 a1 a2
              obtain ⟨c0, c1, c2⟩ := set3x (Ne.symm ne) ⟨s0, s1, s2⟩
              obtain ⟨m0, m1, m2, n0, n1, n2⟩ := hB5
              refine ⟨y, x, ⟨c0, c1, c2, u0, u1, u2⟩, ⟨⟨u4 _ _ (s4 _ _ hy5.1.1), hy5.1.2⟩, hy5.2⟩, ⟨⟨u4 _ _ (s4 _ _ hx5.1.1), hx5.1.2⟩, hx5.2⟩, hym.out, hxm.out, by have := Hc.out; omega, Int.add_comm _ _, ⟨?_, ?_, ?_, ?_, ?_, ?_⟩, u5 _ (s5 _ hk7 (by omega)) (by omega)⟩
              · rw [u6 _ (by simp), s6 _ (by simp)]; exact m0
              · rw [u6 _ (by simp), s6 _ (by simp)]; exact m1
              · rw [u6 _ (by simp), s6 _ (by simp)]; exact m2
              · simp [n0]
              · simp [n1]
              · simp [n2]
          · have Hc := Lib.hid hc
            have hE := Lib.hid (And.intro q0 (And.intro q1 (And.intro q2 (And.intro r0 (And.intro r1 r2)))))
            clear q0 q1 q2 f0 f1 f2 r0 r1 r2 g0 g1 g2
            go_wp2_with fail
            go_meet
            case rel => exact ⟨x, y, hE.out, hx5, hy5, hxm.out, hym.out, by have := Hc.out; omega, rfl, hB5, hk7⟩
        case rest =>
          obtain ⟨X, Y, hS8, hX, hY, hXm, hYm, hXY, hsum, hB8, hk8⟩ := hcut
          obtain ⟨W8, hW8⟩ : ∃ W8 : World, W8 = wc := ⟨_, rfl⟩
          subst hW8
          have hT8 := hT.kp hk8
          obtain ⟨s0, s1, s2, t0, t1, t2⟩ := hS8
          have HXm := Lib.hid hXm
          have HYm := Lib.hid hYm
          have HXY := Lib.hid hXY
          have Hsum := Lib.hid hsum
          clear hXm hYm hXY hsum B1 B2 hx5 hy5 hT5 hB5 hk7
          go_wp2_with fail
          refine (sumS_any X Y q _ hX hY HXm.out HYm.out HXY.out (by omega) (by omega) hT8).mono ?_
          rintro e w9 ⟨a9, c9, M, l, lost, T, rfl, l9, m9, r9, hML, hl0, hl1, k9, hz0, hz1⟩
          have Hz0 := Lib.hid hz0
          have Hz1 := Lib.hid hz1
          clear hz0 hz1
          have ka := (Kp.refl w9).alloc (.cells #[.slice a9 (limbs M).length c9, .int .i64 l, .bool lost] 55)
          by_cases hM : (limbs M).length = 0
          · have hMz : (((limbs M).length : Int) == 0) = true := beq_iff_eq.2 (by omega)
            have HM0 := Lib.hid (show M = 0 from limbs_eq_nil.1 (List.length_eq_zero_iff.1 hM))
            clear hM
            cases lost with
            | false =>
              have HS := Lib.hid (Hz0.out ⟨HM0.out, rfl⟩)
              have hB10 := (hB8.kp k9).kp ka
              have hk10 := (hk8.trans k9).trans ka
              obtain ⟨q0, q1, q2, f0, f1, f2⟩ := hB10
              clear s0 s1 s2 t0 t1 t2 hT8 hB8 hk8 HD hX hY r9
              go_wp2_with fail
              generalize w9.alloc _ = A9 at *
              have hst := stored q0 q1 q2 (fun _ h => by cases h) (fun _ h => by cases h) (fun _ h => by cases h) (.bool false) (.slice none 0 0) (.int .i64 0)
              generalize (((A9.setCell _ _).setCell _ _).setCell _ _) = W2 at hst ⊢
              obtain ⟨s0, s1, s2, _, s4, s5, _, _⟩ := hst
              refine bodyPost_ret (v := .tuple #[.agg #[.bool false, .slice none 0 0, .int .i64 0], .int .i64 0]) (by simp [results, Tryz.results26, go_sem, s0, s1, s2]) rfl ?_
              rw [HD2.out, ← Hsum.out, HS.out, rnd_zero]
              exact numE_zero rfl (s5 _ hk10 (by omega))
            | true =>
              have HNZ := Lib.hid (show ¬ (M = 0 ∧ true = false) from fun h => by cases h.2)
              have Hsg := signed_any (X.neg != T) a9 (limbs M) c9 l true q up _ (r9.kp ka) hML l9 m9 hl0 hl1 (by omega) (by omega) ((hT8.kp k9).kp ka)
              rw [val_limbs, Hz1.out HNZ.out up, Hsum.out] at Hsg
              have Hsg2 := Lib.hid Hsg
              have hB10 := (hB8.kp k9).kp ka
              have hk10 := (hk8.trans k9).trans ka
              have v0 := (k9.trans ka).cell s0
              clear Hsg s0 s1 s2 t0 t1 t2 hT8 hB8 hk8 HD
              go_wp2_with fail
              refine Hsg2.out.mono ?_
              rintro e w11 ⟨z, rfl, hzr, hzd, hzv, hk11⟩
              obtain ⟨q0, q1, q2, f0, f1, f2⟩ := hB10.kp hk11
              have hkk := hk10.trans hk11
              clear hB10 hk10 hk11 v0 Hsg2
              have hst := stored q0 q1 q2 (fun _ h => by cases h) (fun _ h => by cases h) (fun _ h => by cases h) (.bool z.neg) (.slice z.a z.xs.length z.c) (.int .i64 z.e)
              go_wp2_with fail
              generalize (((w11.setCell _ _).setCell _ _).setCell _ _) = W2 at hst ⊢
              obtain ⟨s0, s1, s2, _, s4, s5, _, _⟩ := hst
              refine bodyPost_ret (v := .tuple #[.agg #[.bool z.neg, .slice z.a z.xs.length z.c, .int .i64 z.e], .int .i64 (rndE (rnd 0 (x.iv + y.iv) q up)).2]) (by simp [results, Tryz.results26, go_sem, s0, s1, s2]) rfl ?_
              rw [HD2.out]
              exact ⟨z, rfl, ⟨s4 _ _ hzr.1, hzr.2⟩, hzd, hzv, s5 _ hkk (by omega)⟩
          · have hMz : (((limbs M).length : Int) == 0) = false := beq_eq_false_iff_ne.2 (by omega)
            have HNZ := Lib.hid (show ¬ (M = 0 ∧ lost = false) from fun h => hM (by rw [h.1, limbs_zero]; rfl))
            clear hM
            have Hsg := signed_any (X.neg != T) a9 (limbs M) c9 l lost q up _ (r9.kp ka) hML l9 m9 hl0 hl1 (by omega) (by omega) ((hT8.kp k9).kp ka)
            rw [val_limbs, Hz1.out HNZ.out up, Hsum.out] at Hsg
            have Hsg2 := Lib.hid Hsg
            have hB10 := (hB8.kp k9).kp ka
            have hk10 := (hk8.trans k9).trans ka
            have v0 := (k9.trans ka).cell s0
            clear Hsg s0 s1 s2 t0 t1 t2 hT8 hB8 hk8 HD
            go_wp2_with fail
            refine Hsg2.out.mono ?_
            rintro e w11 ⟨z, rfl, hzr, hzd, hzv, hk11⟩
            obtain ⟨q0, q1, q2, f0, f1, f2⟩ := hB10.kp hk11
            have hkk := hk10.trans hk11
            clear hB10 hk10 hk11 v0 Hsg2
            have hst := stored q0 q1 q2 (fun _ h => by cases h) (fun _ h => by cases h) (fun _ h => by cases h) (.bool z.neg) (.slice z.a z.xs.length z.c) (.int .i64 z.e)
            go_wp2_with fail
            generalize (((w11.setCell _ _).setCell _ _).setCell _ _) = W2 at hst ⊢
            obtain ⟨s0, s1, s2, _, s4, s5, _, _⟩ := hst
            refine bodyPost_ret (v := .tuple #[.agg #[.bool z.neg, .slice z.a z.xs.length z.c, .int .i64 z.e], .int .i64 (rndE (rnd 0 (x.iv + y.iv) q up)).2]) (by simp [results, Tryz.results26, go_sem, s0, s1, s2]) rfl ?_
            rw [HD2.out]
            exact ⟨z, rfl, ⟨s4 _ _ hzr.1, hzr.2⟩, hzd, hzv, s5 _ hkk (by omega)⟩
  · have hz : (fltB p [x, y] == 0) = false := beq_eq_false_iff_ne.2 h0
    have hz2 : (fltB p [x, y] != 0) = true := by rw [bne, hz]; rfl
    have HD2 := Lib.hid (show D = (.zero, fltB p [x, y]) by rw [HD.out]; unfold addB; rw [if_neg h0])
    clear h0 hS1
    obtain ⟨q0, q1, q2, f0, f1, f2⟩ := hB1
    go_wp2_with fail
    have hst := stored q0 q1 q2 (fun _ h => by cases h) (fun _ h => by cases h) (fun _ h => by cases h) (.bool false) (.slice none 0 0) (.int .i64 0)
    generalize (((w1.setCell _ _).setCell _ _).setCell _ _) = W9 at hst ⊢
    obtain ⟨s0, s1, s2, _, s4, s5, _, _⟩ := hst
    refine bodyPost_ret (v := .tuple #[.agg #[.bool false, .slice none 0 0, .int .i64 0], .int .i64 (fltB p [x, y])]) (by simp [results, Tryz.results26, go_sem, s0, s1, s2]) rfl ?_
    rw [HD2.out]
    exact numE_zero rfl (s5 _ hk2 (by omega))
end Go.Proofs.YtkkiinbgjjjcoaaGreatDoor
