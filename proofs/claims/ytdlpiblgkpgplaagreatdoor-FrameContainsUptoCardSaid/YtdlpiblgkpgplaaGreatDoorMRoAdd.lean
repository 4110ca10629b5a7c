/-
  Walks: round.add.
  Plain: the rounded product is the exact one rounded, where that is a valid number.
  Plain: what the laws RoundExact and RoundEnds ask; no program in sight.
  Plain: intervals by their numbers; sums and products of these, rounded outward; no program in sight.
  Plain: numbers that are small integers; their sums and products, rounded, are exact; no program in sight.
  Plain: matrices of intervals by their numbers; no program in sight.
  Plain: smaller arguments and more bits have smaller results: sums and products of intervals; no program in sight.
  Plain: sums and products of intervals contain those of their numbers; no program in sight.
-/
import Derived.Test.YtdlpiblgkpgplaaGreatDoorMRoSum
import Derived.Test.YtdlpiblgkpgplaaGreatDoorMRoSq
section
namespace Go.Proofs.YtdlpiblgkpgplaaGreatDoor
open Go.RowKit

/-- a sum, rounded -/
def addB (x y : RD) (p : Int) (up : Bool) : Dy × Int :=
  if fltB p [x, y] = 0 then rndE (rnd 0 (x.iv + y.iv) p.toNat up) else (.zero, fltB p [x, y])
set_option maxRecDepth 100000 in
set_option maxHeartbeats 16000000 in
theorem add_rd (x y : RD) (p : Int) (up : Bool) (w : World) (hx : x.rd w) (hy : y.rd w) (hT : Tab w) :
    Calls Tryz.prog 96 #[.agg #[.bool x.neg, .slice x.a x.xs.length x.c, .int .i64 x.e], .agg #[.bool y.neg, .slice y.a y.xs.length y.c, .int .i64 y.e], .int .i64 p, .bool up] w (NumE w (addB x y p up).1 (addB x y p up).2) := by
  obtain ⟨D, hD⟩ : ∃ D, D = addB x y p up := ⟨_, rfl⟩
  have HD := Lib.hid hD
  rw [← hD]
  clear hD
  go_enter Tryz.func96, Tryz.ntmps96
  go_wp2_with fail
  generalize hW : (((w.alloc _).alloc _).alloc _) = W at *
  have hk : Kp w W := hW ▸ (((Kp.refl w).alloc _).alloc _).alloc _
  have hS : W.cell? ⟨w.heap.size, 0, none⟩ = some (.bool x.neg) ∧ W.cell? ⟨w.heap.size, 1, none⟩ = some (.slice x.a x.xs.length x.c) ∧ W.cell? ⟨w.heap.size, 2, none⟩ = some (.int .i64 x.e) ∧ W.cell? ⟨w.heap.size + 1, 0, none⟩ = some (.bool y.neg) ∧ W.cell? ⟨w.heap.size + 1, 1, none⟩ = some (.slice y.a y.xs.length y.c) ∧ W.cell? ⟨w.heap.size + 1, 2, none⟩ = some (.int .i64 y.e) := by rw [← hW]; exact keep6 ((Kp.refl _).alloc _) (by simp)
  have hB : Box3 W (w.heap.size + 2) (.bool false) (.slice none 0 0) (.int .i64 0) := hW ▸ Box3.new3 _ _ _ _ _ _ _
  have hsz : W.heap.size = w.heap.size + 1 + 1 + 1 := by rw [← hW]; simp
  have hBX : Box3 W w.heap.size (.bool x.neg) (.slice x.a x.xs.length x.c) (.int .i64 x.e) := hW ▸ ((Box3.new w _ _ _ _).kp ((Kp.refl _).alloc _)).kp ((Kp.refl _).alloc _)
  have hBY : Box3 W (w.heap.size + 1) (.bool y.neg) (.slice y.a y.xs.length y.c) (.int .i64 y.e) := hW ▸ (Box3.new2 _ _ _ _ _ _).kp ((Kp.refl _).alloc _)
  clear hW
  have hka := (Kp.refl W).alloc (.cells #[.bool x.neg, .slice x.a x.xs.length x.c, .int .i64 x.e, .bool y.neg, .slice y.a y.xs.length y.c, .int .i64 y.e] 33)
  have hRw := rowD_two W x y (hx.kp hk) (hy.kp hk) 33
  rw [hsz] at hRw
  clear hsz
  refine (fault_any p _ [x, y] 2 _ hRw (by simp)).mono ?_
  rintro e w1 ⟨rfl, hk1⟩
  have hS1 := keepRR (hka.trans hk1) hS
  have hB1 := hB.kp (hka.trans hk1)
  have hBX1 := hBX.kp (hka.trans hk1)
  have hBY1 := hBY.kp (hka.trans hk1)
  have hk2 := hk.trans (hka.trans hk1)
  clear hS hB hk hk1 hka hRw hBX hBY
  by_cases h0 : fltB p [x, y] = 0
  · obtain ⟨hv, hp0, hp1⟩ := fltB_zero.1 h0
    obtain ⟨q, rfl⟩ := Int.eq_ofNat_of_zero_le (show 0 ≤ p by omega)
    have hxo : x.ok w1 := ⟨hx.kp hk2, by simpa using (List.all_eq_true.1 hv) x (by simp)⟩
    have hyo : y.ok w1 := ⟨hy.kp hk2, by simpa using (List.all_eq_true.1 hv) y (by simp)⟩
    have HD2 := Lib.hid (show D = rndE (rnd 0 (x.iv + y.iv) q up) by rw [HD.out]; unfold addB; rw [if_pos h0]; rfl)
    rw [h0]
    clear h0 hv
    have hT1 := hT.kp hk2
    by_cases hx0 : x.xs.length = 0
    · have hz : ((x.xs.length : Int) == 0) = true := beq_iff_eq.2 (by omega)
      have HD3 := Lib.hid (show D = rndB y (q : Int) up by
        rw [HD2.out, rndB_rnd hyo hp0 hp1]
        have : x.iv = 0 := Dy.iv_eq_zero.2 ((rdok_zero hxo).1 hx0)
        rw [this, Int.zero_add]; rfl)
      obtain ⟨s0, s1, s2, t0, t1, t2⟩ := hS1
      clear hx0 hBX1 hBY1
      go_wp2_with fail
      refine (Round_any y (q : Int) up _ hyo.1 hT1).mono ?_
      rintro e w9 ⟨z, rfl, hzr, hzd, hzv, hk9⟩
      obtain ⟨q0, q1, q2, f0, f1, f2⟩ := hB1.kp hk9
      have hkk := hk2.trans hk9
      clear s0 s1 s2 t0 t1 t2
      have hst := stored q0 q1 q2 (fun _ h => by cases h) (fun _ h => by cases h) (fun _ h => by cases h) (.bool z.neg) (.slice z.a z.xs.length z.c) (.int .i64 z.e)
      go_wp2_with fail
      generalize (((w9.setCell _ _).setCell _ _).setCell _ _) = W2 at hst ⊢
      obtain ⟨s0, s1, s2, _, s4, s5, _, _⟩ := hst
      refine bodyPost_ret (v := .tuple #[.agg #[.bool z.neg, .slice z.a z.xs.length z.c, .int .i64 z.e], .int .i64 (rndB y (q : Int) up).2]) (by simp [results, Tryz.results96, go_sem, s0, s1, s2]) rfl ?_
      rw [HD3.out]
      exact ⟨z, rfl, ⟨s4 _ _ hzr.1, hzr.2⟩, hzd, hzv, s5 _ hkk (by omega)⟩
    · have hz : ((x.xs.length : Int) == 0) = false := beq_eq_false_iff_ne.2 (by omega)
      have hxm := Lib.hid (show x.dy.m ≠ 0 from fun h => hx0 ((rdok_zero hxo).2 h))
      clear hx0
      by_cases hy0 : y.xs.length = 0
      · have hz2 : ((y.xs.length : Int) == 0) = true := beq_iff_eq.2 (by omega)
        have HD3 := Lib.hid (show D = rndB x (q : Int) up by
          rw [HD2.out, rndB_rnd hxo hp0 hp1]
          have : y.iv = 0 := Dy.iv_eq_zero.2 ((rdok_zero hyo).1 hy0)
          rw [this, Int.add_zero]; rfl)
        obtain ⟨s0, s1, s2, t0, t1, t2⟩ := hS1
        clear hy0 hBX1 hBY1
        go_wp2_with fail
        refine (Round_any x (q : Int) up _ hxo.1 hT1).mono ?_
        rintro e w9 ⟨z, rfl, hzr, hzd, hzv, hk9⟩
        obtain ⟨q0, q1, q2, f0, f1, f2⟩ := hB1.kp hk9
        have hkk := hk2.trans hk9
        clear s0 s1 s2 t0 t1 t2
        have hst := stored q0 q1 q2 (fun _ h => by cases h) (fun _ h => by cases h) (fun _ h => by cases h) (.bool z.neg) (.slice z.a z.xs.length z.c) (.int .i64 z.e)
        go_wp2_with fail
        generalize (((w9.setCell _ _).setCell _ _).setCell _ _) = W2 at hst ⊢
        obtain ⟨s0, s1, s2, _, s4, s5, _, _⟩ := hst
        refine bodyPost_ret (v := .tuple #[.agg #[.bool z.neg, .slice z.a z.xs.length z.c, .int .i64 z.e], .int .i64 (rndB x (q : Int) up).2]) (by simp [results, Tryz.results96, go_sem, s0, s1, s2]) rfl ?_
        rw [HD3.out]
        exact ⟨z, rfl, ⟨s4 _ _ hzr.1, hzr.2⟩, hzd, hzv, s5 _ hkk (by omega)⟩
      · have hz2 : ((y.xs.length : Int) == 0) = false := beq_eq_false_iff_ne.2 (by omega)
        have hym := Lib.hid (show y.dy.m ≠ 0 from fun h => hy0 ((rdok_zero hyo).2 h))
        clear hy0
        obtain ⟨s0, s1, s2, t0, t1, t2⟩ := id hS1
        go_wp2_with fail
        clear s0 s1 s2 t0 t1 t2
        have hx2 := hxo.drew
        have hy2 := hyo.drew
        have hT2 := hT1.kp (Kp.refl w1).drew
        have hS2 := keepRR (Kp.refl w1).drew hS1
        have hB2 := hB1.kp (Kp.refl w1).drew
        have hBX2 := hBX1.kp (Kp.refl w1).drew
        have hBY2 := hBY1.kp (Kp.refl w1).drew
        have hk3 := hk2.drew
        have RX := Lib.hid hx2
        have RY := Lib.hid hy2
        clear hxo hyo hT1 hS1 hB1 hBX1 hBY1 hk2
        go_region_held3 (fun w' => w'.cell? ⟨w.heap.size, 0, none⟩ = some (.bool x.neg) ∧ w'.cell? ⟨w.heap.size, 1, none⟩ = some (.slice x.a x.xs.length x.c) ∧ w'.cell? ⟨w.heap.size, 2, none⟩ = some (.int .i64 x.e) ∧ w'.cell? ⟨w.heap.size + 1, 0, none⟩ = some (.bool y.neg) ∧ w'.cell? ⟨w.heap.size + 1, 1, none⟩ = some (.slice y.a y.xs.length y.c) ∧ w'.cell? ⟨w.heap.size + 1, 2, none⟩ = some (.int .i64 y.e)) (first | with_reducible assumption | with_reducible exact keepRR (by assumption) (by assumption))
          (first
            | (go_at_call 121; (with_reducible refine (Top_rok x _ RX.out).mono ?_); rintro e w4 ⟨rfl, hk5⟩)
            | (go_at_call 121; (with_reducible refine (Top_rok y _ (RY.out.kp hk5)).mono ?_); rintro e w5 ⟨rfl, hk6⟩)
            | fail)
        have hkk := hk5.trans hk6
        have hx5 := hx2.kp hkk
        have hy5 := hy2.kp hkk
        have hT5 := hT2.kp hkk
        have B1 := Lib.hid (hBX2.kp hkk)
        have B2 := Lib.hid (hBY2.kp hkk)
        have hB5 := hB2.kp hkk
        have hk7 := hk3.trans hkk
        clear hx2 hy2 hT2 hS2 hB2 hBX2 hBY2 hk3 hk5 hk6 hkk RX RY
        go_upto_if 48 with fail
        go_cut [] from 10 (fun wx => ∃ X Y : RD, (wx.cell? ⟨w.heap.size, 0, none⟩ = some (.bool X.neg) ∧ wx.cell? ⟨w.heap.size, 1, none⟩ = some (.slice X.a X.xs.length X.c) ∧ wx.cell? ⟨w.heap.size, 2, none⟩ = some (.int .i64 X.e) ∧ wx.cell? ⟨w.heap.size + 1, 0, none⟩ = some (.bool Y.neg) ∧ wx.cell? ⟨w.heap.size + 1, 1, none⟩ = some (.slice Y.a Y.xs.length Y.c) ∧ wx.cell? ⟨w.heap.size + 1, 2, none⟩ = some (.int .i64 Y.e)) ∧ X.ok wx ∧ Y.ok wx ∧ X.dy.m ≠ 0 ∧ Y.dy.m ≠ 0 ∧ topI Y.dy ≤ topI X.dy ∧ X.iv + Y.iv = x.iv + y.iv ∧ Box3 wx (w.heap.size + 2) (.bool false) (.slice none 0 0) (.int .i64 0) ∧ Kp w wx)
        case first =>
          obtain ⟨q0, q1, q2, f0, f1, f2⟩ := B1.out
          obtain ⟨r0, r1, r2, g0, g1, g2⟩ := B2.out
          by_cases hc : topI x.dy < topI y.dy
          · have Hc := Lib.hid hc
            have hst := Lib.hid (stored q0 q1 q2 (fun _ h => by cases h) (fun _ h => by cases h) (fun _ h => by cases h) (.bool y.neg) (.slice y.a y.xs.length y.c) (.int .i64 y.e))
            have Hst2 := Lib.hid (fun (W : World) z0 z1 z2 => stored (w := W) (g := w.heap.size + 1) (y0 := .bool y.neg) (y1 := .slice y.a y.xs.length y.c) (y2 := .int .i64 y.e) z0 z1 z2 (fun _ h => by cases h) (fun _ h => by cases h) (fun _ h => by cases h) (.bool x.neg) (.slice x.a x.xs.length x.c) (.int .i64 x.e))
            have Hr := Lib.hid (And.intro r0 (And.intro r1 r2))
            go_wp2_with fail
            go_meet
            case rel =>
              obtain ⟨s0, s1, s2, _, s4, s5, s6, _⟩ := hst.out
              obtain ⟨r0, r1, r2⟩ := Hr.out
              have ne : w.heap.size + 1 ≠ w.heap.size := by omega
              obtain ⟨a0, a1, a2⟩ := set3x ne ⟨r0, r1, r2⟩
              obtain ⟨u0, u1, u2, _, u4, u5, u6, _⟩ := Hst2.out _ a0 a1 a2
              obtain ⟨c0, c1, c2⟩ := set3x (Ne.symm ne) ⟨s0, s1, s2⟩
              obtain ⟨m0, m1, m2, n0, n1, n2⟩ := hB5
              refine ⟨y, x, ⟨c0, c1, c2, u0, u1, u2⟩, ⟨⟨u4 _ _ (s4 _ _ hy5.1.1), hy5.1.2⟩, hy5.2⟩, ⟨⟨u4 _ _ (s4 _ _ hx5.1.1), hx5.1.2⟩, hx5.2⟩, hym.out, hxm.out, by have := Hc.out; omega, Int.add_comm _ _, ⟨?_, ?_, ?_, ?_, ?_, ?_⟩, u5 _ (s5 _ hk7 (by omega)) (by omega)⟩
              · rw [u6 _ (by simp), s6 _ (by simp)]; exact m0
              · rw [u6 _ (by simp), s6 _ (by simp)]; exact m1
              · rw [u6 _ (by simp), s6 _ (by simp)]; exact m2
              · simp [n0]
              · simp [n1]
              · simp [n2]
          · have Hc := Lib.hid hc
            have hE := Lib.hid (And.intro q0 (And.intro q1 (And.intro q2 (And.intro r0 (And.intro r1 r2)))))
            clear q0 q1 q2 f0 f1 f2 r0 r1 r2 g0 g1 g2
            go_wp2_with fail
            go_meet
            case rel => exact ⟨x, y, hE.out, hx5, hy5, hxm.out, hym.out, by have := Hc.out; omega, rfl, hB5, hk7⟩
        case rest =>
          obtain ⟨X, Y, hS8, hX, hY, hXm, hYm, hXY, hsum, hB8, hk8⟩ := hcut
          obtain ⟨W8, hW8⟩ : ∃ W8 : World, W8 = wc := ⟨_, rfl⟩
          subst hW8
          have hT8 := hT.kp hk8
          obtain ⟨s0, s1, s2, t0, t1, t2⟩ := hS8
          have HXm := Lib.hid hXm
          have HYm := Lib.hid hYm
          have HXY := Lib.hid hXY
          have Hsum := Lib.hid hsum
          clear hXm hYm hXY hsum B1 B2 hx5 hy5 hT5 hB5 hk7
          go_wp2_with fail
          refine (sumS_any X Y q _ hX hY HXm.out HYm.out HXY.out (by omega) (by omega) hT8).mono ?_
          rintro e w9 ⟨a9, c9, M, l, lost, T, rfl, l9, m9, r9, hML, hl0, hl1, k9, hz0, hz1⟩
          have Hz0 := Lib.hid hz0
          have Hz1 := Lib.hid hz1
          clear hz0 hz1
          have ka := (Kp.refl w9).alloc (.cells #[.slice a9 (limbs M).length c9, .int .i64 l, .bool lost] 119)
          by_cases hM : (limbs M).length = 0
          · have hMz : (((limbs M).length : Int) == 0) = true := beq_iff_eq.2 (by omega)
            have HM0 := Lib.hid (show M = 0 from limbs_eq_nil.1 (List.length_eq_zero_iff.1 hM))
            clear hM
            cases lost with
            | false =>
              have HS := Lib.hid (Hz0.out ⟨HM0.out, rfl⟩)
              have hB10 := (hB8.kp k9).kp ka
              have hk10 := (hk8.trans k9).trans ka
              obtain ⟨q0, q1, q2, f0, f1, f2⟩ := hB10
              clear s0 s1 s2 t0 t1 t2 hT8 hB8 hk8 HD hX hY r9
              go_wp2_with fail
              generalize w9.alloc _ = A9 at *
              have hst := stored q0 q1 q2 (fun _ h => by cases h) (fun _ h => by cases h) (fun _ h => by cases h) (.bool false) (.slice none 0 0) (.int .i64 0)
              generalize (((A9.setCell _ _).setCell _ _).setCell _ _) = W2 at hst ⊢
              obtain ⟨s0, s1, s2, _, s4, s5, _, _⟩ := hst
              refine bodyPost_ret (v := .tuple #[.agg #[.bool false, .slice none 0 0, .int .i64 0], .int .i64 0]) (by simp [results, Tryz.results96, go_sem, s0, s1, s2]) rfl ?_
              rw [HD2.out, ← Hsum.out, HS.out, rnd_zero]
              exact numE_zero rfl (s5 _ hk10 (by omega))
            | true =>
              have HNZ := Lib.hid (show ¬ (M = 0 ∧ true = false) from fun h => by cases h.2)
              have Hsg := signed_any (X.neg != T) a9 (limbs M) c9 l true q up _ (r9.kp ka) hML l9 m9 hl0 hl1 (by omega) (by omega) ((hT8.kp k9).kp ka)
              rw [val_limbs, Hz1.out HNZ.out up, Hsum.out] at Hsg
              have Hsg2 := Lib.hid Hsg
              have hB10 := (hB8.kp k9).kp ka
              have hk10 := (hk8.trans k9).trans ka
              have v0 := (k9.trans ka).cell s0
              clear Hsg s0 s1 s2 t0 t1 t2 hT8 hB8 hk8 HD
              go_wp2_with fail
              refine Hsg2.out.mono ?_
              rintro e w11 ⟨z, rfl, hzr, hzd, hzv, hk11⟩
              obtain ⟨q0, q1, q2, f0, f1, f2⟩ := hB10.kp hk11
              have hkk := hk10.trans hk11
              clear hB10 hk10 hk11 v0 Hsg2
              have hst := stored q0 q1 q2 (fun _ h => by cases h) (fun _ h => by cases h) (fun _ h => by cases h) (.bool z.neg) (.slice z.a z.xs.length z.c) (.int .i64 z.e)
              go_wp2_with fail
              generalize (((w11.setCell _ _).setCell _ _).setCell _ _) = W2 at hst ⊢
              obtain ⟨s0, s1, s2, _, s4, s5, _, _⟩ := hst
              refine bodyPost_ret (v := .tuple #[.agg #[.bool z.neg, .slice z.a z.xs.length z.c, .int .i64 z.e], .int .i64 (rndE (rnd 0 (x.iv + y.iv) q up)).2]) (by simp [results, Tryz.results96, go_sem, s0, s1, s2]) rfl ?_
              rw [HD2.out]
              exact ⟨z, rfl, ⟨s4 _ _ hzr.1, hzr.2⟩, hzd, hzv, s5 _ hkk (by omega)⟩
          · have hMz : (((limbs M).length : Int) == 0) = false := beq_eq_false_iff_ne.2 (by omega)
            have HNZ := Lib.hid (show ¬ (M = 0 ∧ lost = false) from fun h => hM (by rw [h.1, limbs_zero]; rfl))
            clear hM
            have Hsg := signed_any (X.neg != T) a9 (limbs M) c9 l lost q up _ (r9.kp ka) hML l9 m9 hl0 hl1 (by omega) (by omega) ((hT8.kp k9).kp ka)
            rw [val_limbs, Hz1.out HNZ.out up, Hsum.out] at Hsg
            have Hsg2 := Lib.hid Hsg
            have hB10 := (hB8.kp k9).kp ka
            have hk10 := (hk8.trans k9).trans ka
            have v0 := (k9.trans ka).cell s0
            clear Hsg s0 s1 s2 t0 t1 t2 hT8 hB8 hk8 HD
            go_wp2_with fail
            refine Hsg2.out.mono ?_
            rintro e w11 ⟨z, rfl, hzr, hzd, hzv, hk11⟩
            obtain ⟨q0, q1, q2, f0, f1, f2⟩ := hB10.kp hk11
            have hkk := hk10.trans hk11
            clear hB10 hk10 hk11 v0 Hsg2
            have hst := stored q0 q1 q2 (fun _ h => by cases h) (fun _ h => by cases h) (fun _ h => by cases h) (.bool z.neg) (.slice z.a z.xs.length z.c) (.int .i64 z.e)
            go_wp2_with fail
            generalize (((w11.setCell _ _).setCell _ _).setCell _ _) = W2 at hst ⊢
            obtain ⟨s0, s1, s2, _, s4, s5, _, _⟩ := hst
            refine bodyPost_ret (v := .tuple #[.agg #[.bool z.neg, .slice z.a z.xs.length z.c, .int .i64 z.e], .int .i64 (rndE (rnd 0 (x.iv + y.iv) q up)).2]) (by simp [results, Tryz.results96, go_sem, s0, s1, s2]) rfl ?_
            rw [HD2.out]
            exact ⟨z, rfl, ⟨s4 _ _ hzr.1, hzr.2⟩, hzd, hzv, s5 _ hkk (by omega)⟩
  · have hz : (fltB p [x, y] == 0) = false := beq_eq_false_iff_ne.2 h0
    have hz2 : (fltB p [x, y] != 0) = true := by rw [bne, hz]; rfl
    have HD2 := Lib.hid (show D = (.zero, fltB p [x, y]) by rw [HD.out]; unfold addB; rw [if_neg h0])
    clear h0 hS1
    obtain ⟨q0, q1, q2, f0, f1, f2⟩ := hB1
    go_wp2_with fail
    have hst := stored q0 q1 q2 (fun _ h => by cases h) (fun _ h => by cases h) (fun _ h => by cases h) (.bool false) (.slice none 0 0) (.int .i64 0)
    generalize (((w1.setCell _ _).setCell _ _).setCell _ _) = W9 at hst ⊢
    obtain ⟨s0, s1, s2, _, s4, s5, _, _⟩ := hst
    refine bodyPost_ret (v := .tuple #[.agg #[.bool false, .slice none 0 0, .int .i64 0], .int .i64 (fltB p [x, y])]) (by simp [results, Tryz.results96, go_sem, s0, s1, s2]) rfl ?_
    rw [HD2.out]
    exact numE_zero rfl (s5 _ hk2 (by omega))
end Go.Proofs.YtdlpiblgkpgplaaGreatDoor
end

section
namespace Go.Proofs.YtdlpiblgkpgplaaGreatDoor
open Go.RowKit

end Go.Proofs.YtdlpiblgkpgplaaGreatDoor
end

section
namespace Go.Proofs.YtdlpiblgkpgplaaGreatDoor
open Go.RowKit

theorem chk0 {d : Dy} (h : (chk d).2 = 0) : (chk d).1 = d := by
  unfold chk at h ⊢
  split at h
  · next h' => rw [if_pos h']
  · next h' => cases h
end Go.Proofs.YtdlpiblgkpgplaaGreatDoor
end

section
namespace Go.Proofs.YtdlpiblgkpgplaaGreatDoor
open Go.RowKit

/-- the numbers of an interval -/
structure PI where
  lo : Dy
  hi : Dy
  all : Bool
def RI.pl (x : RI) : PI := ⟨x.lo.dy, x.hi.dy, x.all⟩
def PI.whole : PI := ⟨.zero, .zero, true⟩
/-- valid -/
def PI.ok (X : PI) : Prop := if X.all = true then X.lo = .zero ∧ X.hi = .zero else X.lo.ok ∧ X.hi.ok ∧ X.lo.iv ≤ X.hi.iv
theorem PI.ok_le {X : PI} (h : X.ok) : X.lo.iv ≤ X.hi.iv := by
  unfold PI.ok at h
  split at h
  · rw [h.1, h.2]; exact Int.le_refl _
  · exact h.2.2
theorem RD.zr_parts {x : RD} : x.zr = true ↔ x.neg = false ∧ x.xs = [] ∧ x.e = 0 := by
  unfold RD.zr
  simp [List.length_eq_zero_iff]
theorem RI.pl_ok {w : World} {x : RI} (h : x.rd w) (hv : x.vl = true) : x.pl.ok := by
  unfold PI.ok RI.pl
  cases ha : x.all with
  | true =>
    unfold RI.vl at hv
    rw [ha] at hv
    simp only [if_true, Bool.and_eq_true] at hv ⊢
    obtain ⟨a1, a2, a3⟩ := RD.zr_parts.1 hv.1
    obtain ⟨b1, b2, b3⟩ := RD.zr_parts.1 hv.2
    constructor
    · show RD.dy x.lo = _
      unfold RD.dy; rw [a1, a2, a3]; rfl
    · show RD.dy x.hi = _
      unfold RD.dy; rw [b1, b2, b3]; rfl
  | false =>
    have hk : x.ok w := ⟨h, ha, hv⟩
    have := hk.parts.2.2
    simp only [Bool.false_eq_true, if_false]
    exact ⟨rdok_dy hk.lo, rdok_dy hk.hi, this⟩

section
variable {K p q : Nat} {S T : Int} {x y : Dy}
theorem rndK_down (hp : 0 < p) (hp2 : p ≤ 4096) (h : rnd K S p false = some x) : isP p x ∧ x.iv * 2 ^ K ≤ S ∧ ∀ d', isP p d' → d'.iv * 2 ^ K ≤ S → d'.iv ≤ x.iv := by
  rcases rnd_down (K := K) (S := S) hp hp2 with ⟨h1, _⟩ | ⟨d, h1, h2, h3, h4⟩
  · rw [h1] at h; cases h
  · rw [h1] at h; cases h
    exact ⟨h2, h3, h4⟩
theorem rndK_up (hp : 0 < p) (hp2 : p ≤ 4096) (h : rnd K S p true = some x) : isP p x ∧ S ≤ x.iv * 2 ^ K ∧ ∀ d', isP p d' → S ≤ d'.iv * 2 ^ K → x.iv ≤ d'.iv := by
  rcases rnd_up (K := K) (S := S) hp hp2 with ⟨h1, _⟩ | ⟨d, h1, h2, h3, h4⟩
  · rw [h1] at h; cases h
  · rw [h1] at h; cases h
    exact ⟨h2, h3, h4⟩
theorem twoK_pos (K : Nat) : (0 : Int) < 2 ^ K := by exact_mod_cast two_pow_pos K
theorem rndE_ok (hp : 0 < p) (hp2 : p ≤ 4096) (up : Bool) : (rndE (rnd K S p up)).1.ok := by
  cases h : rnd K S p up with
  | none => exact Dy.ok_zero
  | some d => exact (rnd_isP hp hp2 h).1
theorem rndE_between (hp : 0 < p) (hp2 : p ≤ 4096) (hq : 0 < q) (hq2 : q ≤ 4096) (hST : S ≤ T) (h1 : (rndE (rnd K S p false)).2 = 0) (h2 : (rndE (rnd K T q true)).2 = 0) : (rndE (rnd K S p false)).1.iv ≤ (rndE (rnd K T q true)).1.iv := by
  have a := (rndK_down hp hp2 (rndE_some h1)).2.1
  have b := (rndK_up hq hq2 (rndE_some h2)).2.1
  exact Int.le_of_mul_le_mul_right (Int.le_trans a (Int.le_trans hST b)) (twoK_pos K)
end

/-- a sum, rounded -/
def adP (a b : Dy) (p : Nat) (up : Bool) : Dy × Int := rndE (rnd 0 (a.iv + b.iv) p up)
/-- a product, rounded -/
def muP (a b : Dy) (p : Nat) (up : Bool) : Dy × Int := rndE (rnd 16384 (a.iv * b.iv) p up)
theorem adP_ok (a b : Dy) {p : Nat} (hp : 8 ≤ p) (hp2 : p ≤ 512) (up : Bool) : (adP a b p up).1.ok := rndE_ok (by omega) (by omega) up
theorem muP_ok (a b : Dy) {p : Nat} (hp : 8 ≤ p) (hp2 : p ≤ 512) (up : Bool) : (muP a b p up).1.ok := rndE_ok (by omega) (by omega) up
theorem addB_dy {w : World} {x y : RD} {p : Nat} (hx : x.ok w) (hy : y.ok w) (h0 : 8 ≤ p) (h1 : p ≤ 512) (up : Bool) : addB x y p up = adP x.dy y.dy p up := by
  unfold addB
  rw [if_pos (fltB_ok (by simp [hx.2, hy.2]) h0 h1)]
  rfl
theorem iv_sg {d : Dy} : d.iv = sg d.neg d.m * 2 ^ (d.e + 16384).toNat := by
  unfold Dy.iv sg
  split
  · rw [Int.neg_mul]; push_cast; rfl
  · push_cast; rfl
theorem sg_prod (s t : Bool) (m n : Nat) : sg s m * sg t n = sg (s != t) (m * n) := by
  unfold sg
  cases s <;> cases t <;> simp [Int.neg_mul, Int.mul_neg]
theorem prod_iv {a b : Dy} (ha : -16384 ≤ a.e) (hb : -16384 ≤ b.e) : a.iv * b.iv = sg (a.neg != b.neg) (a.m * b.m) * 2 ^ (a.e + b.e + 32768).toNat := by
  rw [iv_sg, iv_sg, ← sg_prod, show (a.e + b.e + 32768).toNat = (a.e + 16384).toNat + (b.e + 16384).toNat from by omega, Int.pow_add, Int.mul_assoc, Int.mul_assoc]
  congr 1
  rw [← Int.mul_assoc, Int.mul_comm _ (sg b.neg b.m), Int.mul_assoc]
theorem muP_rndS {a b : Dy} (ha : -16384 ≤ a.e) (hb : -16384 ≤ b.e) (h0 : a.m * b.m ≠ 0) (p : Nat) (up : Bool) : rndS (a.neg != b.neg) (a.m * b.m) (a.e + b.e) false p up = rnd 16384 (a.iv * b.iv) p up := by
  rw [rndS_rnde h0, ← rnde_rnd, prod_iv ha hb, show (-16384 - ((16384 : Nat) : Int)) = a.e + b.e - ((a.e + b.e + 32768).toNat : Nat) from by omega, rnde_shift]
theorem mulB_dy {w : World} {x y : RD} {p : Nat} (hx : x.ok w) (hy : y.ok w) (h0 : 8 ≤ p) (h1 : p ≤ 512) (up : Bool) : mulB x y p up = muP x.dy y.dy p up := by
  unfold mulB
  rw [if_pos (fltB_ok (by simp [hx.2, hy.2]) h0 h1)]
  have zx := rdok_zero hx
  have zy := rdok_zero hy
  unfold muP
  by_cases hz : x.xs.length = 0 ∨ y.xs.length = 0
  · rw [if_pos hz]
    have : x.dy.iv * y.dy.iv = 0 := by
      rcases hz with h | h
      · rw [Dy.iv_eq_zero.2 (zx.1 h), Int.zero_mul]
      · rw [Dy.iv_eq_zero.2 (zy.1 h), Int.mul_zero]
    rw [this, rnd_zero]; rfl
  · rw [if_neg hz]
    have hm : x.dy.m * y.dy.m ≠ 0 := Nat.mul_ne_zero (fun h => hz (.inl (zx.2 h))) (fun h => hz (.inr (zy.2 h)))
    have := muP_rndS (a := x.dy) (b := y.dy) (ok_e (rdok_dy hx)).1 (ok_e (rdok_dy hy)).1 hm p up
    rw [← this]; rfl

/-- an interval of two ends that were computed, or All -/
def mkI (l h : Dy × Int) : PI := if l.2 ≠ 0 ∨ h.2 ≠ 0 then .whole else ⟨l.1, h.1, false⟩
/-- the sum of intervals -/
def pAdd (X Y : PI) (p : Nat) : PI := if (X.all || Y.all) = true then .whole else mkI (adP X.lo Y.lo p false) (adP X.hi Y.hi p true)
/-- the least and the greatest of what an operation gives for pairs of numbers; All if there is an error -/
def fourP (op : Dy → Dy → Bool → Dy × Int) : List (Dy × Dy) → Option (Dy × Dy) → PI
  | [], none => .whole
  | [], some (l, h) => ⟨l, h, false⟩
  | (a, b) :: r, acc =>
    if (op a b false).2 ≠ 0 ∨ (op a b true).2 ≠ 0 then .whole
    else match acc with
      | none => fourP op r (some ((op a b false).1, (op a b true).1))
      | some (l, h) => fourP op r (some (if (op a b false).1.iv < l.iv then (op a b false).1 else l, if h.iv < (op a b true).1.iv then (op a b true).1 else h))
def pairsP (X Y : PI) : List (Dy × Dy) := [(X.lo, Y.lo), (X.lo, Y.hi), (X.hi, Y.lo), (X.hi, Y.hi)]
/-- the product of intervals -/
def pMul (X Y : PI) (p : Nat) : PI := if (X.all || Y.all) = true then .whole else fourP (fun a b up => muP a b p up) (pairsP X Y) none
theorem muP_le (a b : Dy) {p : Nat} (hp : 8 ≤ p) (hp2 : p ≤ 512) (h1 : (muP a b p false).2 = 0) (h2 : (muP a b p true).2 = 0) : (muP a b p false).1.iv ≤ (muP a b p true).1.iv :=
  rndE_between (by omega) (by omega) (by omega) (by omega) (Int.le_refl _) h1 h2
/-- the result is an interval of these numbers -/
def IvOut (w : World) (X : PI) (e : Ending) (w' : World) : Prop := ∃ z : RI, e = .returned (.agg #[.bool z.lo.neg, .slice z.lo.a z.lo.xs.length z.lo.c, .int .i64 z.lo.e, .bool z.hi.neg, .slice z.hi.a z.hi.xs.length z.hi.c, .int .i64 z.hi.e, .bool z.all]) ∧ z.rd w' ∧ z.pl = X ∧ z.vl = true ∧ Kp w w'
end Go.Proofs.YtdlpiblgkpgplaaGreatDoor
end

section
namespace Go.Proofs.YtdlpiblgkpgplaaGreatDoor
open Go.RowKit

/-- what is a number of p bits is rounded to it -/
theorem rnd_exact {K p : Nat} {S : Int} {d : Dy} (hp : 0 < p) (hp2 : p ≤ 4096) (hd : isP p d) (h : S = d.iv * 2 ^ K) (up : Bool) : rnd K S p up = some d := by
  subst h
  cases up with
  | false =>
    rcases rnd_down (K := K) (S := d.iv * 2 ^ K) hp hp2 with ⟨_, h2⟩ | ⟨x, h1, h2, h3, h4⟩
    · exact absurd (Int.le_refl _) (h2 d hd)
    · rw [h1]
      have a := Int.le_of_mul_le_mul_right h3 (twoK_pos K)
      have b := h4 d hd (Int.le_refl _)
      exact congrArg some (Dy.iv_inj h2.1 hd.1 (Int.le_antisymm a b))
  | true =>
    rcases rnd_up (K := K) (S := d.iv * 2 ^ K) hp hp2 with ⟨_, h2⟩ | ⟨x, h1, h2, h3, h4⟩
    · exact absurd (Int.le_refl _) (h2 d hd)
    · rw [h1]
      have a := Int.le_of_mul_le_mul_right h3 (twoK_pos K)
      have b := h4 d hd (Int.le_refl _)
      exact congrArg some (Dy.iv_inj h2.1 hd.1 (Int.le_antisymm b a))
/-- a small integer -/
def intD (n : Int) : Dy := canon (decide (n < 0)) n.natAbs 0
theorem intD_iv (n : Int) : (intD n).iv = n * 2 ^ 16384 := by
  unfold intD
  rw [canon_iv _ _ _ (by omega), show ((0 : Int) + 16384).toNat = 16384 from rfl]
  generalize (16384 : Nat) = q
  unfold sg
  by_cases h : n < 0
  · rw [decide_eq_true h, if_pos rfl, Int.natCast_mul, Int.natCast_pow]
    have : ((n.natAbs : Nat) : Int) = -n := by omega
    rw [this, Int.neg_mul, Int.neg_neg]; rfl
  · rw [decide_eq_false h, if_neg (by decide), Int.natCast_mul, Int.natCast_pow]
    have : ((n.natAbs : Nat) : Int) = n := by omega
    rw [this]; rfl
theorem intD_isP {n : Int} {p : Nat} (hp : 0 < p) (hp2 : p ≤ 4096) (h : n.natAbs < 2 ^ p) : isP p (intD n) := by
  unfold intD
  by_cases h0 : n.natAbs = 0
  · rw [h0, canon_zero]; exact isP.zero p
  · have hb : bits n.natAbs ≤ p := bits_le.2 h
    have hm : (canon (decide (n < 0)) n.natAbs 0).m = oddp n.natAbs := by unfold canon; rw [if_neg h0]
    have ho := bits_oddp h0
    have ho2 := (oddp_spec h0).1
    refine ⟨(canon_ok_iff _ _ _).2 ?_, by rw [hm]; omega⟩
    unfold inr canon
    rw [if_neg h0]
    refine .inr ?_
    dsimp only
    omega
theorem muP_int {a b : Int} {p : Nat} (hp : 8 ≤ p) (hp2 : p ≤ 512) (h : (a * b).natAbs < 2 ^ p) (up : Bool) : muP (intD a) (intD b) p up = (intD (a * b), 0) := by
  unfold muP
  rw [rnd_exact (K := 16384) (by omega) (by omega) (intD_isP (by omega) (by omega) h) _ up]
  · rfl
  · rw [intD_iv, intD_iv, intD_iv]
    generalize (2 : Int) ^ 16384 = Q
    rw [Int.mul_assoc, Int.mul_left_comm Q b Q, ← Int.mul_assoc, ← Int.mul_assoc]
theorem adP_int {a b : Int} {p : Nat} (hp : 8 ≤ p) (hp2 : p ≤ 512) (h : (a + b).natAbs < 2 ^ p) (up : Bool) : adP (intD a) (intD b) p up = (intD (a + b), 0) := by
  unfold adP
  rw [rnd_exact (K := 0) (by omega) (by omega) (intD_isP (by omega) (by omega) h) _ up]
  · rfl
  · rw [intD_iv, intD_iv, intD_iv, Int.pow_zero, Int.mul_one, Int.add_mul]
/-- an interval with integers as ends -/
def pnI (a b : Int) : PI := ⟨intD a, intD b, false⟩
theorem pAdd_int {a b c d : Int} {p : Nat} (hp : 8 ≤ p) (hp2 : p ≤ 512) (h : (a + c).natAbs < 2 ^ p) (h2 : (b + d).natAbs < 2 ^ p) : pAdd (pnI a b) (pnI c d) p = pnI (a + c) (b + d) := by
  unfold pAdd pnI mkI
  simp only [Bool.or_self, Bool.false_eq_true, if_false]
  rw [adP_int hp hp2 h, adP_int hp hp2 h2]
  rfl
end Go.Proofs.YtdlpiblgkpgplaaGreatDoor
end

section
namespace Go.Proofs.YtdlpiblgkpgplaaGreatDoor
open Go.RowKit

/-- All -/
def wholeR : RI := ⟨rdZero, rdZero, true⟩
theorem wholeR_rd (w : World) : wholeR.rd w := ⟨rdZero_rd w, rdZero_rd w⟩
/-- the interval in row i, column j -/
def atR (m : List (List RI)) (i j : Nat) : RI := (m.getD i []).getD j wholeR
def atP (m : List (List RI)) (i j : Nat) : PI := (atR m i j).pl
theorem atR_eq {m : List (List RI)} {i j : Nat} {r : List RI} {x : RI} (hr : m[i]? = some r) (hx : r[j]? = some x) : atR m i j = x := by
  unfold atR
  have h1 : m.getD i [] = r := by rw [List.getD_eq_getElem?_getD, hr]; rfl
  rw [h1, List.getD_eq_getElem?_getD, hx]; rfl
theorem atP_eq {m : List (List RI)} {i j : Nat} {r : List RI} {x : RI} (hr : m[i]? = some r) (hx : r[j]? = some x) : atP m i j = x.pl := by unfold atP; rw [atR_eq hr hx]
/-- the columns -/
def colsM (m : List (List RI)) : Nat := (m.headD []).length
/-- is it a valid matrix? -/
def vlM (m : List (List RI)) : Bool := decide (1 ≤ m.length ∧ m.length ≤ 8) && (decide (1 ≤ colsM m ∧ colsM m ≤ 8) && m.all fun r => decide (r.length = colsM m) && r.all RI.vl)
theorem vlM_iff {m : List (List RI)} : vlM m = true ↔ (1 ≤ m.length ∧ m.length ≤ 8) ∧ (1 ≤ colsM m ∧ colsM m ≤ 8) ∧ ∀ r ∈ m, r.length = colsM m ∧ ∀ x ∈ r, x.vl = true := by
  unfold vlM
  simp only [Bool.and_eq_true, decide_eq_true_eq, List.all_eq_true]
theorem vlM_row {m : List (List RI)} (h : vlM m = true) {i : Nat} {r : List RI} (hi : m[i]? = some r) : r.length = colsM m ∧ ∀ x ∈ r, x.vl = true :=
  (vlM_iff.1 h).2.2 r (List.mem_of_getElem? hi)
def plR (r : List RI) : List PI := r.map RI.pl
/-- the numbers of a matrix -/
def plM (m : List (List RI)) : List (List PI) := m.map plR
/-- all its intervals are valid -/
def okM (m : List (List RI)) : Prop := ∀ r ∈ m, ∀ x ∈ r, x.vl = true
/-- the matrix of what F gives -/
def rowF (k : Nat) (F : Nat → PI) : List PI := (List.range k).map F
def tabM (n k : Nat) (F : Nat → Nat → PI) : List (List PI) := (List.range n).map fun i => rowF k (F i)
theorem rowF_snoc (k : Nat) (F : Nat → PI) : rowF (k + 1) F = rowF k F ++ [F k] := by unfold rowF; rw [List.range_succ, List.map_append]; rfl
theorem tabM_snoc (n k : Nat) (F : Nat → Nat → PI) : tabM (n + 1) k F = tabM n k F ++ [rowF k (F n)] := by unfold tabM; rw [List.range_succ, List.map_append]; rfl
theorem plR_snoc (r : List RI) (x : RI) : plR (r ++ [x]) = plR r ++ [x.pl] := by unfold plR; rw [List.map_append]; rfl
theorem plM_snoc (m : List (List RI)) (r : List RI) : plM (m ++ [r]) = plM m ++ [plR r] := by unfold plM; rw [List.map_append]; rfl
theorem okM_snoc {m : List (List RI)} {r : List RI} (h : okM m) (hr : ∀ x ∈ r, x.vl = true) : okM (m ++ [r]) := by
  intro q hq
  rcases List.mem_append.1 hq with hq | hq
  · exact h q hq
  · simp only [List.mem_singleton] at hq; subst hq; exact hr
theorem ok_snoc {r : List RI} {x : RI} (h : ∀ x ∈ r, x.vl = true) (hx : x.vl = true) : ∀ y ∈ r ++ [x], y.vl = true := by
  intro y hy
  rcases List.mem_append.1 hy with hy | hy
  · exact h y hy
  · simp only [List.mem_singleton] at hy; subst hy; exact hx
/-- the negative -/
def PI.neg (X : PI) : PI := if X.all then .whole else ⟨X.hi.opp, X.lo.opp, false⟩
/-- sums of products, in order -/
def dotF (p : Nat) (f g : Nat → PI) : Nat → PI
  | 0 => pMul (f 0) (g 0) p
  | t + 1 => pAdd (dotF p f g t) (pMul (f (t + 1)) (g (t + 1)) p) p
end Go.Proofs.YtdlpiblgkpgplaaGreatDoor
end

section
namespace Go.Proofs.YtdlpiblgkpgplaaGreatDoor
open Go.RowKit

/-- X is contained in Y -/
def insP (X Y : PI) : Prop := Y.all = true ∨ X.all = false ∧ Y.all = false ∧ Y.lo.iv ≤ X.lo.iv ∧ X.hi.iv ≤ Y.hi.iv
theorem insP.refl (X : PI) : insP X X := by
  cases h : X.all with
  | true => exact .inl h
  | false => exact .inr ⟨h, h, Int.le_refl _, Int.le_refl _⟩
theorem insP.whole (X : PI) : insP X .whole := .inl rfl
section
variable {K p q : Nat} {S T : Int}
end
theorem mkI_good {l h : Dy × Int} (hl : l.2 = 0) (hh : h.2 = 0) : mkI l h = ⟨l.1, h.1, false⟩ := by unfold mkI; rw [if_neg (by omega)]
theorem mkI_bad {l h : Dy × Int} (hb : l.2 ≠ 0 ∨ h.2 ≠ 0) : mkI l h = .whole := by unfold mkI; rw [if_pos hb]
/-- what fourP returns -/
theorem fourP_spec {op : Dy → Dy → Bool → Dy × Int} : ∀ (l : List (Dy × Dy)) (acc : Option (Dy × Dy)), (l ≠ [] ∨ acc ≠ none) →
    ((∃ x ∈ l, (op x.1 x.2 false).2 ≠ 0 ∨ (op x.1 x.2 true).2 ≠ 0) ∧ fourP op l acc = .whole) ∨
    ((∀ x ∈ l, (op x.1 x.2 false).2 = 0 ∧ (op x.1 x.2 true).2 = 0) ∧ ∃ lo hi, fourP op l acc = ⟨lo, hi, false⟩ ∧
      (∀ x ∈ l, lo.iv ≤ (op x.1 x.2 false).1.iv ∧ (op x.1 x.2 true).1.iv ≤ hi.iv) ∧ (∀ a b, acc = some (a, b) → lo.iv ≤ a.iv ∧ b.iv ≤ hi.iv) ∧
      ((∃ x ∈ l, lo = (op x.1 x.2 false).1) ∨ ∃ b, acc = some (lo, b)) ∧ ((∃ x ∈ l, hi = (op x.1 x.2 true).1) ∨ ∃ a, acc = some (a, hi))) := by
  intro l
  induction l with
  | nil =>
    intro acc h
    match acc with
    | none => rcases h with h | h <;> exact absurd rfl h
    | some (a, b) =>
      refine .inr ⟨fun x hx => by simp at hx, a, b, rfl, fun x hx => by simp at hx, ?_, .inr ⟨b, rfl⟩, .inr ⟨a, rfl⟩⟩
      intro a' b' e; cases e; exact ⟨Int.le_refl _, Int.le_refl _⟩
  | cons x r ih =>
    obtain ⟨a, b⟩ := x
    intro acc _
    by_cases hb : (op a b false).2 ≠ 0 ∨ (op a b true).2 ≠ 0
    · refine .inl ⟨⟨(a, b), List.mem_cons_self, hb⟩, ?_⟩
      unfold fourP; rw [if_pos hb]
    · have e1 : (op a b false).2 = 0 := Classical.byContradiction fun k => hb (.inl k)
      have e2 : (op a b true).2 = 0 := Classical.byContradiction fun k => hb (.inr k)
      have main : ∀ l' h', l'.iv ≤ (op a b false).1.iv → (op a b true).1.iv ≤ h'.iv → (∀ a' b', acc = some (a', b') → l'.iv ≤ a'.iv ∧ b'.iv ≤ h'.iv) →
          (l' = (op a b false).1 ∨ ∃ b', acc = some (l', b')) → (h' = (op a b true).1 ∨ ∃ a', acc = some (a', h')) → fourP op ((a, b) :: r) acc = fourP op r (some (l', h')) →
          ((∃ x ∈ (a, b) :: r, (op x.1 x.2 false).2 ≠ 0 ∨ (op x.1 x.2 true).2 ≠ 0) ∧ fourP op ((a, b) :: r) acc = .whole) ∨
          ((∀ x ∈ (a, b) :: r, (op x.1 x.2 false).2 = 0 ∧ (op x.1 x.2 true).2 = 0) ∧ ∃ lo hi, fourP op ((a, b) :: r) acc = ⟨lo, hi, false⟩ ∧
            (∀ x ∈ (a, b) :: r, lo.iv ≤ (op x.1 x.2 false).1.iv ∧ (op x.1 x.2 true).1.iv ≤ hi.iv) ∧ (∀ a' b', acc = some (a', b') → lo.iv ≤ a'.iv ∧ b'.iv ≤ hi.iv) ∧
            ((∃ x ∈ (a, b) :: r, lo = (op x.1 x.2 false).1) ∨ ∃ b', acc = some (lo, b')) ∧ ((∃ x ∈ (a, b) :: r, hi = (op x.1 x.2 true).1) ∨ ∃ a', acc = some (a', hi))) := by
        intro l' h' k1 k2 k3 k4 k5 k6
        rw [k6]
        rcases ih (some (l', h')) (.inr (by simp)) with ⟨⟨x, hx, hxe⟩, h2⟩ | ⟨h1, lo, hi, h2, h3, h4, h5, h6⟩
        · exact .inl ⟨⟨x, List.mem_cons_of_mem _ hx, hxe⟩, h2⟩
        · obtain ⟨q1, q2⟩ := h4 _ _ rfl
          refine .inr ⟨fun x hx => ?_, lo, hi, h2, fun x hx => ?_, fun a' b' e => ?_, ?_, ?_⟩
          · rcases List.mem_cons.1 hx with rfl | hx
            · exact ⟨e1, e2⟩
            · exact h1 x hx
          · rcases List.mem_cons.1 hx with rfl | hx
            · exact ⟨Int.le_trans q1 k1, Int.le_trans k2 q2⟩
            · exact h3 x hx
          · have := k3 _ _ e; omega
          · rcases h5 with ⟨x, hx, e⟩ | ⟨b', e⟩
            · exact .inl ⟨x, List.mem_cons_of_mem _ hx, e⟩
            · cases e
              rcases k4 with k4 | k4
              · exact .inl ⟨(a, b), List.mem_cons_self, k4⟩
              · exact .inr k4
          · rcases h6 with ⟨x, hx, e⟩ | ⟨b', e⟩
            · exact .inl ⟨x, List.mem_cons_of_mem _ hx, e⟩
            · cases e
              rcases k5 with k5 | k5
              · exact .inl ⟨(a, b), List.mem_cons_self, k5⟩
              · exact .inr k5
      rcases acc with _ | ⟨l', h'⟩
      · refine main _ _ (Int.le_refl _) (Int.le_refl _) (fun a' b' e => by cases e) (.inl rfl) (.inl rfl) ?_
        conv => lhs; unfold fourP
        rw [if_neg hb]
      · refine main (if (op a b false).1.iv < l'.iv then (op a b false).1 else l') (if h'.iv < (op a b true).1.iv then (op a b true).1 else h') ?_ ?_ ?_ ?_ ?_ ?_
        · split <;> omega
        · split <;> omega
        · intro a' b' e; cases e
          constructor
          · split <;> omega
          · split <;> omega
        · split
          · exact .inl rfl
          · exact .inr ⟨_, rfl⟩
        · split
          · exact .inl rfl
          · exact .inr ⟨_, rfl⟩
        · conv => lhs; unfold fourP
          rw [if_neg hb]
/-- a product of numbers in two intervals lies between products of their ends -/
theorem corner {a1 a2 b1 b2 a b : Int} (ha1 : a1 ≤ a) (ha2 : a ≤ a2) (hb1 : b1 ≤ b) (hb2 : b ≤ b2) :
    (a1 * b1 ≤ a * b ∨ a1 * b2 ≤ a * b ∨ a2 * b1 ≤ a * b ∨ a2 * b2 ≤ a * b) ∧ (a * b ≤ a1 * b1 ∨ a * b ≤ a1 * b2 ∨ a * b ≤ a2 * b1 ∨ a * b ≤ a2 * b2) := by
  have m1 (u v t : Int) (h : u ≤ v) (ht : 0 ≤ t) : u * t ≤ v * t := Int.mul_le_mul_of_nonneg_right h ht
  have m2 (u v t : Int) (h : u ≤ v) (ht : t ≤ 0) : v * t ≤ u * t := Int.mul_le_mul_of_nonpos_right h ht
  have n1 (u v t : Int) (h : u ≤ v) (ht : 0 ≤ t) : t * u ≤ t * v := Int.mul_le_mul_of_nonneg_left h ht
  have n2 (u v t : Int) (h : u ≤ v) (ht : t ≤ 0) : t * v ≤ t * u := Int.mul_le_mul_of_nonpos_left ht h
  constructor
  · by_cases hb : 0 ≤ b
    · have h1 := m1 a1 a b ha1 hb
      by_cases h0 : 0 ≤ a1
      · have := n1 b1 b a1 hb1 h0; omega
      · have := n2 b b2 a1 hb2 (by omega); omega
    · have h1 := m2 a a2 b ha2 (by omega)
      by_cases h0 : 0 ≤ a2
      · have := n1 b1 b a2 hb1 h0; omega
      · have := n2 b b2 a2 hb2 (by omega); omega
  · by_cases hb : 0 ≤ b
    · have h1 := m1 a a2 b ha2 hb
      by_cases h0 : 0 ≤ a2
      · have := n1 b b2 a2 hb2 h0; omega
      · have := n2 b1 b a2 hb1 (by omega); omega
    · have h1 := m2 a1 a b ha1 (by omega)
      by_cases h0 : 0 ≤ a1
      · have := n1 b b2 a1 hb2 h0; omega
      · have := n2 b1 b a1 hb1 (by omega); omega
end Go.Proofs.YtdlpiblgkpgplaaGreatDoor
end

section
namespace Go.Proofs.YtdlpiblgkpgplaaGreatDoor
open Go.RowKit

/-- a number, in steps of 2^-16384, is in an interval -/
def hasV (X : PI) (v : Int) : Prop := X.all = true ∨ X.lo.iv ≤ v ∧ v ≤ X.hi.iv
theorem hasV.lo {X : PI} (h : X.ok) : hasV X X.lo.iv := .inr ⟨Int.le_refl _, PI.ok_le h⟩
theorem hasV.hi {X : PI} (h : X.ok) : hasV X X.hi.iv := .inr ⟨PI.ok_le h, Int.le_refl _⟩
theorem hasV.whole (v : Int) : hasV .whole v := .inl rfl
theorem pAdd_has {X Y : PI} {p : Nat} {a b : Int} (hp : 8 ≤ p) (hp2 : p ≤ 512) (hX : hasV X a) (hY : hasV Y b) : hasV (pAdd X Y p) (a + b) := by
  unfold pAdd
  by_cases ha : (X.all || Y.all) = true
  · rw [if_pos ha]; exact .whole _
  · rw [if_neg ha]
    rw [Bool.or_eq_true] at ha
    have hx := hX.resolve_left (fun k => ha (.inl k))
    have hy := hY.resolve_left (fun k => ha (.inr k))
    by_cases hb : (adP X.lo Y.lo p false).2 ≠ 0 ∨ (adP X.hi Y.hi p true).2 ≠ 0
    · rw [mkI_bad hb]; exact .whole _
    · have e1 : (adP X.lo Y.lo p false).2 = 0 := Classical.byContradiction fun k => hb (.inl k)
      have e2 : (adP X.hi Y.hi p true).2 = 0 := Classical.byContradiction fun k => hb (.inr k)
      have d := (rndK_down (K := 0) (by omega) (by omega) (rndE_some e1)).2.1
      have u := (rndK_up (K := 0) (by omega) (by omega) (rndE_some e2)).2.1
      rw [Int.pow_zero, Int.mul_one] at d u
      rw [mkI_good e1 e2]
      exact .inr ⟨by show (rndE (rnd 0 (X.lo.iv + Y.lo.iv) p false)).1.iv ≤ _; omega, by show _ ≤ (rndE (rnd 0 (X.hi.iv + Y.hi.iv) p true)).1.iv; omega⟩
theorem pMul_has {X Y : PI} {p : Nat} {a b c : Int} (hp : 8 ≤ p) (hp2 : p ≤ 512) (hX : hasV X a) (hY : hasV Y b) (hc : c * 2 ^ 16384 = a * b) : hasV (pMul X Y p) c := by
  unfold pMul
  by_cases ha : (X.all || Y.all) = true
  · rw [if_pos ha]; exact .whole _
  · rw [if_neg ha]
    rw [Bool.or_eq_true] at ha
    have hx := hX.resolve_left (fun k => ha (.inl k))
    have hy := hY.resolve_left (fun k => ha (.inr k))
    rcases fourP_spec (op := fun a b up => muP a b p up) (pairsP X Y) none (.inl (by unfold pairsP; simp)) with ⟨_, h2⟩ | ⟨g1, lo, hi, g2, g3, _, _, _⟩
    · rw [h2]; exact .whole _
    · rw [g2]
      obtain ⟨c1, c2⟩ := corner hx.1 hx.2 hy.1 hy.2
      have low : ∀ z ∈ pairsP X Y, z.1.iv * z.2.iv ≤ a * b → lo.iv ≤ c := by
        intro z hz hle
        have d := (rndK_down (K := 16384) (by omega) (by omega) (rndE_some (g1 z hz).1)).2.1
        have h3 := (g3 z hz).1
        refine Int.le_trans h3 (Int.le_of_mul_le_mul_right ?_ (twoK_pos 16384))
        rw [hc]; exact Int.le_trans d hle
      have high : ∀ z ∈ pairsP X Y, a * b ≤ z.1.iv * z.2.iv → c ≤ hi.iv := by
        intro z hz hle
        have u := (rndK_up (K := 16384) (by omega) (by omega) (rndE_some (g1 z hz).2)).2.1
        have h3 := (g3 z hz).2
        refine Int.le_trans (Int.le_of_mul_le_mul_right ?_ (twoK_pos 16384)) h3
        rw [hc]; exact Int.le_trans hle u
      refine .inr ⟨?_, ?_⟩
      · unfold pairsP at low
        rcases c1 with c | c | c | c
        · exact low _ (.head _) c
        · exact low _ (.tail _ (.head _)) c
        · exact low _ (.tail _ (.tail _ (.head _))) c
        · exact low _ (.tail _ (.tail _ (.tail _ (.head _)))) c
      · unfold pairsP at high
        rcases c2 with c | c | c | c
        · exact high _ (.head _) c
        · exact high _ (.tail _ (.head _)) c
        · exact high _ (.tail _ (.tail _ (.head _))) c
        · exact high _ (.tail _ (.tail _ (.tail _ (.head _)))) c
/-- sums, in order -/
def sumF (c : Nat → Int) : Nat → Int
  | 0 => c 0
  | t + 1 => sumF c t + c (t + 1)
theorem dotF_has {p : Nat} (hp : 8 ≤ p) (hp2 : p ≤ 512) {f g : Nat → PI} {a b c : Nat → Int} {n : Nat} (hf : ∀ t, t ≤ n → hasV (f t) (a t)) (hg : ∀ t, t ≤ n → hasV (g t) (b t)) (hc : ∀ t, t ≤ n → c t * 2 ^ 16384 = a t * b t) :
    ∀ t, t ≤ n → hasV (dotF p f g t) (sumF c t)
  | 0, h => pMul_has hp hp2 (hf 0 h) (hg 0 h) (hc 0 h)
  | t + 1, h => pAdd_has hp hp2 (dotF_has hp hp2 hf hg hc t (by omega)) (pMul_has hp hp2 (hf _ h) (hg _ h) (hc _ h))
end Go.Proofs.YtdlpiblgkpgplaaGreatDoor
end
