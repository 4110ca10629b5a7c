/-
  Walks: round.add.
  Plain: the rounded product is the exact one rounded, where that is a valid number.
  Plain: what the laws RoundExact and RoundEnds ask; no program in sight.
  Plain: intervals by their numbers; sums and products of these, rounded outward; no program in sight.
  Plain: numbers that are small integers; their sums and products, rounded, are exact; no program in sight.
  Walks: slices.IndexFunc, ContainsFunc at [][][]flowpipe/api.Interval.
  Plain: matrices of intervals by their numbers; no program in sight.
  Walks: the law's long, wide, great, fine.
  Walks: the law's num.
-/
import Derived.Test.YtdidocdpjiiedaaGreatDoorMRoSum
import Derived.Test.YtdidocdpjiiedaaGreatDoorMRoSq
import Derived.Test.YtdidocdpjiiedaaGreatDoorMIvF
import Derived.Deep.DeepFit
import Derived.Test.YtdidocdpjiiedaaGreatDoorMRoA
import Derived.Deep.LoopGhost
import Derived.Deep.RegionHeld3
import Derived.Test.YtdidocdpjiiedaaGreatDoorMCmpD
section
namespace Go.Proofs.YtdidocdpjiiedaaGreatDoor
open Go.RowKit

/-- a sum, rounded -/
def addB (x y : RD) (p : Int) (up : Bool) : Dy × Int :=
  if fltB p [x, y] = 0 then rndE (rnd 0 (x.iv + y.iv) p.toNat up) else (.zero, fltB p [x, y])
set_option maxRecDepth 100000 in
set_option maxHeartbeats 16000000 in
theorem add_rd (x y : RD) (p : Int) (up : Bool) (w : World) (hx : x.rd w) (hy : y.rd w) (hT : Tab w) :
    Calls Tryz.prog 110 #[.agg #[.bool x.neg, .slice x.a x.xs.length x.c, .int .i64 x.e], .agg #[.bool y.neg, .slice y.a y.xs.length y.c, .int .i64 y.e], .int .i64 p, .bool up] w (NumE w (addB x y p up).1 (addB x y p up).2) := by
  obtain ⟨D, hD⟩ : ∃ D, D = addB x y p up := ⟨_, rfl⟩
  have HD := Lib.hid hD
  rw [← hD]
  clear hD
  go_enter Tryz.func110, Tryz.ntmps110
  go_wp2_with fail
  generalize hW : (((w.alloc _).alloc _).alloc _) = W at *
  have hk : Kp w W := hW ▸ (((Kp.refl w).alloc _).alloc _).alloc _
  have hS : W.cell? ⟨w.heap.size, 0, none⟩ = some (.bool x.neg) ∧ W.cell? ⟨w.heap.size, 1, none⟩ = some (.slice x.a x.xs.length x.c) ∧ W.cell? ⟨w.heap.size, 2, none⟩ = some (.int .i64 x.e) ∧ W.cell? ⟨w.heap.size + 1, 0, none⟩ = some (.bool y.neg) ∧ W.cell? ⟨w.heap.size + 1, 1, none⟩ = some (.slice y.a y.xs.length y.c) ∧ W.cell? ⟨w.heap.size + 1, 2, none⟩ = some (.int .i64 y.e) := by rw [← hW]; exact keep6 ((Kp.refl _).alloc _) (by simp)
  have hB : Box3 W (w.heap.size + 2) (.bool false) (.slice none 0 0) (.int .i64 0) := hW ▸ Box3.new3 _ _ _ _ _ _ _
  have hsz : W.heap.size = w.heap.size + 1 + 1 + 1 := by rw [← hW]; simp
  have hBX : Box3 W w.heap.size (.bool x.neg) (.slice x.a x.xs.length x.c) (.int .i64 x.e) := hW ▸ ((Box3.new w _ _ _ _).kp ((Kp.refl _).alloc _)).kp ((Kp.refl _).alloc _)
  have hBY : Box3 W (w.heap.size + 1) (.bool y.neg) (.slice y.a y.xs.length y.c) (.int .i64 y.e) := hW ▸ (Box3.new2 _ _ _ _ _ _).kp ((Kp.refl _).alloc _)
  clear hW
  have hka := (Kp.refl W).alloc (.cells #[.bool x.neg, .slice x.a x.xs.length x.c, .int .i64 x.e, .bool y.neg, .slice y.a y.xs.length y.c, .int .i64 y.e] 28)
  have hRw := rowD_two W x y (hx.kp hk) (hy.kp hk) 28
  rw [hsz] at hRw
  clear hsz
  refine (fault_any p _ [x, y] 2 _ hRw (by simp)).mono ?_
  rintro e w1 ⟨rfl, hk1⟩
  have hS1 := keepRR (hka.trans hk1) hS
  have hB1 := hB.kp (hka.trans hk1)
  have hBX1 := hBX.kp (hka.trans hk1)
  have hBY1 := hBY.kp (hka.trans hk1)
  have hk2 := hk.trans (hka.trans hk1)
  clear hS hB hk hk1 hka hRw hBX hBY
  by_cases h0 : fltB p [x, y] = 0
  · obtain ⟨hv, hp0, hp1⟩ := fltB_zero.1 h0
    obtain ⟨q, rfl⟩ := Int.eq_ofNat_of_zero_le (show 0 ≤ p by omega)
    have hxo : x.ok w1 := ⟨hx.kp hk2, by simpa using (List.all_eq_true.1 hv) x (by simp)⟩
    have hyo : y.ok w1 := ⟨hy.kp hk2, by simpa using (List.all_eq_true.1 hv) y (by simp)⟩
    have HD2 := Lib.hid (show D = rndE (rnd 0 (x.iv + y.iv) q up) by rw [HD.out]; unfold addB; rw [if_pos h0]; rfl)
    rw [h0]
    clear h0 hv
    have hT1 := hT.kp hk2
    by_cases hx0 : x.xs.length = 0
    · have hz : ((x.xs.length : Int) == 0) = true := beq_iff_eq.2 (by omega)
      have HD3 := Lib.hid (show D = rndB y (q : Int) up by
        rw [HD2.out, rndB_rnd hyo hp0 hp1]
        have : x.iv = 0 := Dy.iv_eq_zero.2 ((rdok_zero hxo).1 hx0)
        rw [this, Int.zero_add]; rfl)
      obtain ⟨s0, s1, s2, t0, t1, t2⟩ := hS1
      clear hx0 hBX1 hBY1
      go_wp2_with fail
      refine (Round_any y (q : Int) up _ hyo.1 hT1).mono ?_
      rintro e w9 ⟨z, rfl, hzr, hzd, hzv, hk9⟩
      obtain ⟨q0, q1, q2, f0, f1, f2⟩ := hB1.kp hk9
      have hkk := hk2.trans hk9
      clear s0 s1 s2 t0 t1 t2
      have hst := stored q0 q1 q2 (fun _ h => by cases h) (fun _ h => by cases h) (fun _ h => by cases h) (.bool z.neg) (.slice z.a z.xs.length z.c) (.int .i64 z.e)
      go_wp2_with fail
      generalize (((w9.setCell _ _).setCell _ _).setCell _ _) = W2 at hst ⊢
      obtain ⟨s0, s1, s2, _, s4, s5, _, _⟩ := hst
      refine bodyPost_ret (v := .tuple #[.agg #[.bool z.neg, .slice z.a z.xs.length z.c, .int .i64 z.e], .int .i64 (rndB y (q : Int) up).2]) (by simp [results, Tryz.results110, go_sem, s0, s1, s2]) rfl ?_
      rw [HD3.out]
      exact ⟨z, rfl, ⟨s4 _ _ hzr.1, hzr.2⟩, hzd, hzv, s5 _ hkk (by omega)⟩
    · have hz : ((x.xs.length : Int) == 0) = false := beq_eq_false_iff_ne.2 (by omega)
      have hxm := Lib.hid (show x.dy.m ≠ 0 from fun h => hx0 ((rdok_zero hxo).2 h))
      clear hx0
      by_cases hy0 : y.xs.length = 0
      · have hz2 : ((y.xs.length : Int) == 0) = true := beq_iff_eq.2 (by omega)
        have HD3 := Lib.hid (show D = rndB x (q : Int) up by
          rw [HD2.out, rndB_rnd hxo hp0 hp1]
          have : y.iv = 0 := Dy.iv_eq_zero.2 ((rdok_zero hyo).1 hy0)
          rw [this, Int.add_zero]; rfl)
        obtain ⟨s0, s1, s2, t0, t1, t2⟩ := hS1
        clear hy0 hBX1 hBY1
        go_wp2_with fail
        refine (Round_any x (q : Int) up _ hxo.1 hT1).mono ?_
        rintro e w9 ⟨z, rfl, hzr, hzd, hzv, hk9⟩
        obtain ⟨q0, q1, q2, f0, f1, f2⟩ := hB1.kp hk9
        have hkk := hk2.trans hk9
        clear s0 s1 s2 t0 t1 t2
        have hst := stored q0 q1 q2 (fun _ h => by cases h) (fun _ h => by cases h) (fun _ h => by cases h) (.bool z.neg) (.slice z.a z.xs.length z.c) (.int .i64 z.e)
        go_wp2_with fail
        generalize (((w9.setCell _ _).setCell _ _).setCell _ _) = W2 at hst ⊢
        obtain ⟨s0, s1, s2, _, s4, s5, _, _⟩ := hst
        refine bodyPost_ret (v := .tuple #[.agg #[.bool z.neg, .slice z.a z.xs.length z.c, .int .i64 z.e], .int .i64 (rndB x (q : Int) up).2]) (by simp [results, Tryz.results110, go_sem, s0, s1, s2]) rfl ?_
        rw [HD3.out]
        exact ⟨z, rfl, ⟨s4 _ _ hzr.1, hzr.2⟩, hzd, hzv, s5 _ hkk (by omega)⟩
      · have hz2 : ((y.xs.length : Int) == 0) = false := beq_eq_false_iff_ne.2 (by omega)
        have hym := Lib.hid (show y.dy.m ≠ 0 from fun h => hy0 ((rdok_zero hyo).2 h))
        clear hy0
        obtain ⟨s0, s1, s2, t0, t1, t2⟩ := id hS1
        go_wp2_with fail
        clear s0 s1 s2 t0 t1 t2
        have hx2 := hxo.drew
        have hy2 := hyo.drew
        have hT2 := hT1.kp (Kp.refl w1).drew
        have hS2 := keepRR (Kp.refl w1).drew hS1
        have hB2 := hB1.kp (Kp.refl w1).drew
        have hBX2 := hBX1.kp (Kp.refl w1).drew
        have hBY2 := hBY1.kp (Kp.refl w1).drew
        have hk3 := hk2.drew
        have RX := Lib.hid hx2
        have RY := Lib.hid hy2
        clear hxo hyo hT1 hS1 hB1 hBX1 hBY1 hk2
        go_region_held3 (fun w' => w'.cell? ⟨w.heap.size, 0, none⟩ = some (.bool x.neg) ∧ w'.cell? ⟨w.heap.size, 1, none⟩ = some (.slice x.a x.xs.length x.c) ∧ w'.cell? ⟨w.heap.size, 2, none⟩ = some (.int .i64 x.e) ∧ w'.cell? ⟨w.heap.size + 1, 0, none⟩ = some (.bool y.neg) ∧ w'.cell? ⟨w.heap.size + 1, 1, none⟩ = some (.slice y.a y.xs.length y.c) ∧ w'.cell? ⟨w.heap.size + 1, 2, none⟩ = some (.int .i64 y.e)) (first | with_reducible assumption | with_reducible exact keepRR (by assumption) (by assumption))
          (first
            | (go_at_call 135; (with_reducible refine (Top_rok x _ RX.out).mono ?_); rintro e w4 ⟨rfl, hk5⟩)
            | (go_at_call 135; (with_reducible refine (Top_rok y _ (RY.out.kp hk5)).mono ?_); rintro e w5 ⟨rfl, hk6⟩)
            | fail)
        have hkk := hk5.trans hk6
        have hx5 := hx2.kp hkk
        have hy5 := hy2.kp hkk
        have hT5 := hT2.kp hkk
        have B1 := Lib.hid (hBX2.kp hkk)
        have B2 := Lib.hid (hBY2.kp hkk)
        have hB5 := hB2.kp hkk
        have hk7 := hk3.trans hkk
        clear hx2 hy2 hT2 hS2 hB2 hBX2 hBY2 hk3 hk5 hk6 hkk RX RY
        go_upto_if 48 with fail
        go_cut [] from 10 (fun wx => ∃ X Y : RD, (wx.cell? ⟨w.heap.size, 0, none⟩ = some (.bool X.neg) ∧ wx.cell? ⟨w.heap.size, 1, none⟩ = some (.slice X.a X.xs.length X.c) ∧ wx.cell? ⟨w.heap.size, 2, none⟩ = some (.int .i64 X.e) ∧ wx.cell? ⟨w.heap.size + 1, 0, none⟩ = some (.bool Y.neg) ∧ wx.cell? ⟨w.heap.size + 1, 1, none⟩ = some (.slice Y.a Y.xs.length Y.c) ∧ wx.cell? ⟨w.heap.size + 1, 2, none⟩ = some (.int .i64 Y.e)) ∧ X.ok wx ∧ Y.ok wx ∧ X.dy.m ≠ 0 ∧ Y.dy.m ≠ 0 ∧ topI Y.dy ≤ topI X.dy ∧ X.iv + Y.iv = x.iv + y.iv ∧ Box3 wx (w.heap.size + 2) (.bool false) (.slice none 0 0) (.int .i64 0) ∧ Kp w wx)
        case first =>
          obtain ⟨q0, q1, q2, f0, f1, f2⟩ := B1.out
          obtain ⟨r0, r1, r2, g0, g1, g2⟩ := B2.out
          by_cases hc : topI x.dy < topI y.dy
          · have Hc := Lib.hid hc
            have hst := Lib.hid (stored q0 q1 q2 (fun _ h => by cases h) (fun _ h => by cases h) (fun _ h => by cases h) (.bool y.neg) (.slice y.a y.xs.length y.c) (.int .i64 y.e))
            have Hst2 := Lib.hid (fun (W : World) z0 z1 z2 => stored (w := W) (g := w.heap.size + 1) (y0 := .bool y.neg) (y1 := .slice y.a y.xs.length y.c) (y2 := .int .i64 y.e) z0 z1 z2 (fun _ h => by cases h) (fun _ h => by cases h) (fun _ h => by cases h) (.bool x.neg) (.slice x.a x.xs.length x.c) (.int .i64 x.e))
            have Hr := Lib.hid (And.intro r0 (And.intro r1 r2))
            go_wp2_with fail
            go_meet
            case rel =>
              obtain ⟨s0, s1, s2, _, s4, s5, s6, _⟩ := hst.out
              obtain ⟨r0, r1, r2⟩ := Hr.out
              have ne : w.heap.size + 1 ≠ w.heap.size := by omega
              obtain ⟨a0, a1, a2⟩ := set3x ne ⟨r0, r1, r2⟩
              obtain ⟨u0, u1, u2, _, u4, u5, u6, _⟩ := Hst2.out _ a0 a1 a2
              obtain ⟨c0, c1, c2⟩ := set3x (Ne.symm ne) ⟨s0, s1, s2⟩
              obtain ⟨m0, m1, m2, n0, n1, n2⟩ := hB5
              refine ⟨y, x, ⟨c0, c1, c2, u0, u1, u2⟩, ⟨⟨u4 _ _ (s4 _ _ hy5.1.1), hy5.1.2⟩, hy5.2⟩, ⟨⟨u4 _ _ (s4 _ _ hx5.1.1), hx5.1.2⟩, hx5.2⟩, hym.out, hxm.out, by have := Hc.out; omega, Int.add_comm _ _, ⟨?_, ?_, ?_, ?_, ?_, ?_⟩, u5 _ (s5 _ hk7 (by omega)) (by omega)⟩
              · rw [u6 _ (by simp), s6 _ (by simp)]; exact m0
              · rw [u6 _ (by simp), s6 _ (by simp)]; exact m1
              · rw [u6 _ (by simp), s6 _ (by simp)]; exact m2
              · simp [n0]
              · simp [n1]
              · simp [n2]
          · have Hc := Lib.hid hc
            have hE := Lib.hid (And.intro q0 (And.intro q1 (And.intro q2 (And.intro r0 (And.intro r1 r2)))))
            clear q0 q1 q2 f0 f1 f2 r0 r1 r2 g0 g1 g2
            go_wp2_with fail
            go_meet
            case rel => exact ⟨x, y, hE.out, hx5, hy5, hxm.out, hym.out, by have := Hc.out; omega, rfl, hB5, hk7⟩
        case rest =>
          obtain ⟨X, Y, hS8, hX, hY, hXm, hYm, hXY, hsum, hB8, hk8⟩ := hcut
          obtain ⟨W8, hW8⟩ : ∃ W8 : World, W8 = wc := ⟨_, rfl⟩
          subst hW8
          have hT8 := hT.kp hk8
          obtain ⟨s0, s1, s2, t0, t1, t2⟩ := hS8
          have HXm := Lib.hid hXm
          have HYm := Lib.hid hYm
          have HXY := Lib.hid hXY
          have Hsum := Lib.hid hsum
          clear hXm hYm hXY hsum B1 B2 hx5 hy5 hT5 hB5 hk7
          go_wp2_with fail
          refine (sumS_any X Y q _ hX hY HXm.out HYm.out HXY.out (by omega) (by omega) hT8).mono ?_
          rintro e w9 ⟨a9, c9, M, l, lost, T, rfl, l9, m9, r9, hML, hl0, hl1, k9, hz0, hz1⟩
          have Hz0 := Lib.hid hz0
          have Hz1 := Lib.hid hz1
          clear hz0 hz1
          have ka := (Kp.refl w9).alloc (.cells #[.slice a9 (limbs M).length c9, .int .i64 l, .bool lost] 137)
          by_cases hM : (limbs M).length = 0
          · have hMz : (((limbs M).length : Int) == 0) = true := beq_iff_eq.2 (by omega)
            have HM0 := Lib.hid (show M = 0 from limbs_eq_nil.1 (List.length_eq_zero_iff.1 hM))
            clear hM
            cases lost with
            | false =>
              have HS := Lib.hid (Hz0.out ⟨HM0.out, rfl⟩)
              have hB10 := (hB8.kp k9).kp ka
              have hk10 := (hk8.trans k9).trans ka
              obtain ⟨q0, q1, q2, f0, f1, f2⟩ := hB10
              clear s0 s1 s2 t0 t1 t2 hT8 hB8 hk8 HD hX hY r9
              go_wp2_with fail
              generalize w9.alloc _ = A9 at *
              have hst := stored q0 q1 q2 (fun _ h => by cases h) (fun _ h => by cases h) (fun _ h => by cases h) (.bool false) (.slice none 0 0) (.int .i64 0)
              generalize (((A9.setCell _ _).setCell _ _).setCell _ _) = W2 at hst ⊢
              obtain ⟨s0, s1, s2, _, s4, s5, _, _⟩ := hst
              refine bodyPost_ret (v := .tuple #[.agg #[.bool false, .slice none 0 0, .int .i64 0], .int .i64 0]) (by simp [results, Tryz.results110, go_sem, s0, s1, s2]) rfl ?_
              rw [HD2.out, ← Hsum.out, HS.out, rnd_zero]
              exact numE_zero rfl (s5 _ hk10 (by omega))
            | true =>
              have HNZ := Lib.hid (show ¬ (M = 0 ∧ true = false) from fun h => by cases h.2)
              have Hsg := signed_any (X.neg != T) a9 (limbs M) c9 l true q up _ (r9.kp ka) hML l9 m9 hl0 hl1 (by omega) (by omega) ((hT8.kp k9).kp ka)
              rw [val_limbs, Hz1.out HNZ.out up, Hsum.out] at Hsg
              have Hsg2 := Lib.hid Hsg
              have hB10 := (hB8.kp k9).kp ka
              have hk10 := (hk8.trans k9).trans ka
              have v0 := (k9.trans ka).cell s0
              clear Hsg s0 s1 s2 t0 t1 t2 hT8 hB8 hk8 HD
              go_wp2_with fail
              refine Hsg2.out.mono ?_
              rintro e w11 ⟨z, rfl, hzr, hzd, hzv, hk11⟩
              obtain ⟨q0, q1, q2, f0, f1, f2⟩ := hB10.kp hk11
              have hkk := hk10.trans hk11
              clear hB10 hk10 hk11 v0 Hsg2
              have hst := stored q0 q1 q2 (fun _ h => by cases h) (fun _ h => by cases h) (fun _ h => by cases h) (.bool z.neg) (.slice z.a z.xs.length z.c) (.int .i64 z.e)
              go_wp2_with fail
              generalize (((w11.setCell _ _).setCell _ _).setCell _ _) = W2 at hst ⊢
              obtain ⟨s0, s1, s2, _, s4, s5, _, _⟩ := hst
              refine bodyPost_ret (v := .tuple #[.agg #[.bool z.neg, .slice z.a z.xs.length z.c, .int .i64 z.e], .int .i64 (rndE (rnd 0 (x.iv + y.iv) q up)).2]) (by simp [results, Tryz.results110, go_sem, s0, s1, s2]) rfl ?_
              rw [HD2.out]
              exact ⟨z, rfl, ⟨s4 _ _ hzr.1, hzr.2⟩, hzd, hzv, s5 _ hkk (by omega)⟩
          · have hMz : (((limbs M).length : Int) == 0) = false := beq_eq_false_iff_ne.2 (by omega)
            have HNZ := Lib.hid (show ¬ (M = 0 ∧ lost = false) from fun h => hM (by rw [h.1, limbs_zero]; rfl))
            clear hM
            have Hsg := signed_any (X.neg != T) a9 (limbs M) c9 l lost q up _ (r9.kp ka) hML l9 m9 hl0 hl1 (by omega) (by omega) ((hT8.kp k9).kp ka)
            rw [val_limbs, Hz1.out HNZ.out up, Hsum.out] at Hsg
            have Hsg2 := Lib.hid Hsg
            have hB10 := (hB8.kp k9).kp ka
            have hk10 := (hk8.trans k9).trans ka
            have v0 := (k9.trans ka).cell s0
            clear Hsg s0 s1 s2 t0 t1 t2 hT8 hB8 hk8 HD
            go_wp2_with fail
            refine Hsg2.out.mono ?_
            rintro e w11 ⟨z, rfl, hzr, hzd, hzv, hk11⟩
            obtain ⟨q0, q1, q2, f0, f1, f2⟩ := hB10.kp hk11
            have hkk := hk10.trans hk11
            clear hB10 hk10 hk11 v0 Hsg2
            have hst := stored q0 q1 q2 (fun _ h => by cases h) (fun _ h => by cases h) (fun _ h => by cases h) (.bool z.neg) (.slice z.a z.xs.length z.c) (.int .i64 z.e)
            go_wp2_with fail
            generalize (((w11.setCell _ _).setCell _ _).setCell _ _) = W2 at hst ⊢
            obtain ⟨s0, s1, s2, _, s4, s5, _, _⟩ := hst
            refine bodyPost_ret (v := .tuple #[.agg #[.bool z.neg, .slice z.a z.xs.length z.c, .int .i64 z.e], .int .i64 (rndE (rnd 0 (x.iv + y.iv) q up)).2]) (by simp [results, Tryz.results110, go_sem, s0, s1, s2]) rfl ?_
            rw [HD2.out]
            exact ⟨z, rfl, ⟨s4 _ _ hzr.1, hzr.2⟩, hzd, hzv, s5 _ hkk (by omega)⟩
  · have hz : (fltB p [x, y] == 0) = false := beq_eq_false_iff_ne.2 h0
    have hz2 : (fltB p [x, y] != 0) = true := by rw [bne, hz]; rfl
    have HD2 := Lib.hid (show D = (.zero, fltB p [x, y]) by rw [HD.out]; unfold addB; rw [if_neg h0])
    clear h0 hS1
    obtain ⟨q0, q1, q2, f0, f1, f2⟩ := hB1
    go_wp2_with fail
    have hst := stored q0 q1 q2 (fun _ h => by cases h) (fun _ h => by cases h) (fun _ h => by cases h) (.bool false) (.slice none 0 0) (.int .i64 0)
    generalize (((w1.setCell _ _).setCell _ _).setCell _ _) = W9 at hst ⊢
    obtain ⟨s0, s1, s2, _, s4, s5, _, _⟩ := hst
    refine bodyPost_ret (v := .tuple #[.agg #[.bool false, .slice none 0 0, .int .i64 0], .int .i64 (fltB p [x, y])]) (by simp [results, Tryz.results110, go_sem, s0, s1, s2]) rfl ?_
    rw [HD2.out]
    exact numE_zero rfl (s5 _ hk2 (by omega))
end Go.Proofs.YtdidocdpjiiedaaGreatDoor
end

section
namespace Go.Proofs.YtdidocdpjiiedaaGreatDoor
open Go.RowKit

end Go.Proofs.YtdidocdpjiiedaaGreatDoor
end

section
namespace Go.Proofs.YtdidocdpjiiedaaGreatDoor
open Go.RowKit

end Go.Proofs.YtdidocdpjiiedaaGreatDoor
end

section
namespace Go.Proofs.YtdidocdpjiiedaaGreatDoor
open Go.RowKit

/-- the numbers of an interval -/
structure PI where
  lo : Dy
  hi : Dy
  all : Bool
def RI.pl (x : RI) : PI := ⟨x.lo.dy, x.hi.dy, x.all⟩
def PI.whole : PI := ⟨.zero, .zero, true⟩
/-- valid -/
def PI.ok (X : PI) : Prop := if X.all = true then X.lo = .zero ∧ X.hi = .zero else X.lo.ok ∧ X.hi.ok ∧ X.lo.iv ≤ X.hi.iv
theorem PI.ok_le {X : PI} (h : X.ok) : X.lo.iv ≤ X.hi.iv := by
  unfold PI.ok at h
  split at h
  · rw [h.1, h.2]; exact Int.le_refl _
  · exact h.2.2
theorem RD.zr_parts {x : RD} : x.zr = true ↔ x.neg = false ∧ x.xs = [] ∧ x.e = 0 := by
  unfold RD.zr
  simp [List.length_eq_zero_iff]
section
variable {K p q : Nat} {S T : Int} {x y : Dy}
theorem rndK_down (hp : 0 < p) (hp2 : p ≤ 4096) (h : rnd K S p false = some x) : isP p x ∧ x.iv * 2 ^ K ≤ S ∧ ∀ d', isP p d' → d'.iv * 2 ^ K ≤ S → d'.iv ≤ x.iv := by
  rcases rnd_down (K := K) (S := S) hp hp2 with ⟨h1, _⟩ | ⟨d, h1, h2, h3, h4⟩
  · rw [h1] at h; cases h
  · rw [h1] at h; cases h
    exact ⟨h2, h3, h4⟩
theorem rndK_up (hp : 0 < p) (hp2 : p ≤ 4096) (h : rnd K S p true = some x) : isP p x ∧ S ≤ x.iv * 2 ^ K ∧ ∀ d', isP p d' → S ≤ d'.iv * 2 ^ K → x.iv ≤ d'.iv := by
  rcases rnd_up (K := K) (S := S) hp hp2 with ⟨h1, _⟩ | ⟨d, h1, h2, h3, h4⟩
  · rw [h1] at h; cases h
  · rw [h1] at h; cases h
    exact ⟨h2, h3, h4⟩
theorem twoK_pos (K : Nat) : (0 : Int) < 2 ^ K := by exact_mod_cast two_pow_pos K
theorem rndE_ok (hp : 0 < p) (hp2 : p ≤ 4096) (up : Bool) : (rndE (rnd K S p up)).1.ok := by
  cases h : rnd K S p up with
  | none => exact Dy.ok_zero
  | some d => exact (rnd_isP hp hp2 h).1
theorem rndE_between (hp : 0 < p) (hp2 : p ≤ 4096) (hq : 0 < q) (hq2 : q ≤ 4096) (hST : S ≤ T) (h1 : (rndE (rnd K S p false)).2 = 0) (h2 : (rndE (rnd K T q true)).2 = 0) : (rndE (rnd K S p false)).1.iv ≤ (rndE (rnd K T q true)).1.iv := by
  have a := (rndK_down hp hp2 (rndE_some h1)).2.1
  have b := (rndK_up hq hq2 (rndE_some h2)).2.1
  exact Int.le_of_mul_le_mul_right (Int.le_trans a (Int.le_trans hST b)) (twoK_pos K)
end

/-- a sum, rounded -/
def adP (a b : Dy) (p : Nat) (up : Bool) : Dy × Int := rndE (rnd 0 (a.iv + b.iv) p up)
/-- a product, rounded -/
def muP (a b : Dy) (p : Nat) (up : Bool) : Dy × Int := rndE (rnd 16384 (a.iv * b.iv) p up)
theorem adP_ok (a b : Dy) {p : Nat} (hp : 8 ≤ p) (hp2 : p ≤ 512) (up : Bool) : (adP a b p up).1.ok := rndE_ok (by omega) (by omega) up
theorem muP_ok (a b : Dy) {p : Nat} (hp : 8 ≤ p) (hp2 : p ≤ 512) (up : Bool) : (muP a b p up).1.ok := rndE_ok (by omega) (by omega) up
theorem addB_dy {w : World} {x y : RD} {p : Nat} (hx : x.ok w) (hy : y.ok w) (h0 : 8 ≤ p) (h1 : p ≤ 512) (up : Bool) : addB x y p up = adP x.dy y.dy p up := by
  unfold addB
  rw [if_pos (fltB_ok (by simp [hx.2, hy.2]) h0 h1)]
  rfl
theorem iv_sg {d : Dy} : d.iv = sg d.neg d.m * 2 ^ (d.e + 16384).toNat := by
  unfold Dy.iv sg
  split
  · rw [Int.neg_mul]; push_cast; rfl
  · push_cast; rfl
theorem sg_prod (s t : Bool) (m n : Nat) : sg s m * sg t n = sg (s != t) (m * n) := by
  unfold sg
  cases s <;> cases t <;> simp [Int.neg_mul, Int.mul_neg]
theorem prod_iv {a b : Dy} (ha : -16384 ≤ a.e) (hb : -16384 ≤ b.e) : a.iv * b.iv = sg (a.neg != b.neg) (a.m * b.m) * 2 ^ (a.e + b.e + 32768).toNat := by
  rw [iv_sg, iv_sg, ← sg_prod, show (a.e + b.e + 32768).toNat = (a.e + 16384).toNat + (b.e + 16384).toNat from by omega, Int.pow_add, Int.mul_assoc, Int.mul_assoc]
  congr 1
  rw [← Int.mul_assoc, Int.mul_comm _ (sg b.neg b.m), Int.mul_assoc]
theorem muP_rndS {a b : Dy} (ha : -16384 ≤ a.e) (hb : -16384 ≤ b.e) (h0 : a.m * b.m ≠ 0) (p : Nat) (up : Bool) : rndS (a.neg != b.neg) (a.m * b.m) (a.e + b.e) false p up = rnd 16384 (a.iv * b.iv) p up := by
  rw [rndS_rnde h0, ← rnde_rnd, prod_iv ha hb, show (-16384 - ((16384 : Nat) : Int)) = a.e + b.e - ((a.e + b.e + 32768).toNat : Nat) from by omega, rnde_shift]
theorem mulB_dy {w : World} {x y : RD} {p : Nat} (hx : x.ok w) (hy : y.ok w) (h0 : 8 ≤ p) (h1 : p ≤ 512) (up : Bool) : mulB x y p up = muP x.dy y.dy p up := by
  unfold mulB
  rw [if_pos (fltB_ok (by simp [hx.2, hy.2]) h0 h1)]
  have zx := rdok_zero hx
  have zy := rdok_zero hy
  unfold muP
  by_cases hz : x.xs.length = 0 ∨ y.xs.length = 0
  · rw [if_pos hz]
    have : x.dy.iv * y.dy.iv = 0 := by
      rcases hz with h | h
      · rw [Dy.iv_eq_zero.2 (zx.1 h), Int.zero_mul]
      · rw [Dy.iv_eq_zero.2 (zy.1 h), Int.mul_zero]
    rw [this, rnd_zero]; rfl
  · rw [if_neg hz]
    have hm : x.dy.m * y.dy.m ≠ 0 := Nat.mul_ne_zero (fun h => hz (.inl (zx.2 h))) (fun h => hz (.inr (zy.2 h)))
    have := muP_rndS (a := x.dy) (b := y.dy) (ok_e (rdok_dy hx)).1 (ok_e (rdok_dy hy)).1 hm p up
    rw [← this]; rfl

/-- an interval of two ends that were computed, or All -/
def mkI (l h : Dy × Int) : PI := if l.2 ≠ 0 ∨ h.2 ≠ 0 then .whole else ⟨l.1, h.1, false⟩
/-- the sum of intervals -/
def pAdd (X Y : PI) (p : Nat) : PI := if (X.all || Y.all) = true then .whole else mkI (adP X.lo Y.lo p false) (adP X.hi Y.hi p true)
/-- the least and the greatest of what an operation gives for pairs of numbers; All if there is an error -/
def fourP (op : Dy → Dy → Bool → Dy × Int) : List (Dy × Dy) → Option (Dy × Dy) → PI
  | [], none => .whole
  | [], some (l, h) => ⟨l, h, false⟩
  | (a, b) :: r, acc =>
    if (op a b false).2 ≠ 0 ∨ (op a b true).2 ≠ 0 then .whole
    else match acc with
      | none => fourP op r (some ((op a b false).1, (op a b true).1))
      | some (l, h) => fourP op r (some (if (op a b false).1.iv < l.iv then (op a b false).1 else l, if h.iv < (op a b true).1.iv then (op a b true).1 else h))
def pairsP (X Y : PI) : List (Dy × Dy) := [(X.lo, Y.lo), (X.lo, Y.hi), (X.hi, Y.lo), (X.hi, Y.hi)]
/-- the product of intervals -/
def pMul (X Y : PI) (p : Nat) : PI := if (X.all || Y.all) = true then .whole else fourP (fun a b up => muP a b p up) (pairsP X Y) none
theorem muP_le (a b : Dy) {p : Nat} (hp : 8 ≤ p) (hp2 : p ≤ 512) (h1 : (muP a b p false).2 = 0) (h2 : (muP a b p true).2 = 0) : (muP a b p false).1.iv ≤ (muP a b p true).1.iv :=
  rndE_between (by omega) (by omega) (by omega) (by omega) (Int.le_refl _) h1 h2
/-- the result is an interval of these numbers -/
def IvOut (w : World) (X : PI) (e : Ending) (w' : World) : Prop := ∃ z : RI, e = .returned (.agg #[.bool z.lo.neg, .slice z.lo.a z.lo.xs.length z.lo.c, .int .i64 z.lo.e, .bool z.hi.neg, .slice z.hi.a z.hi.xs.length z.hi.c, .int .i64 z.hi.e, .bool z.all]) ∧ z.rd w' ∧ z.pl = X ∧ z.vl = true ∧ Kp w w'
end Go.Proofs.YtdidocdpjiiedaaGreatDoor
end

section
namespace Go.Proofs.YtdidocdpjiiedaaGreatDoor
open Go.RowKit

/-- what is a number of p bits is rounded to it -/
theorem rnd_exact {K p : Nat} {S : Int} {d : Dy} (hp : 0 < p) (hp2 : p ≤ 4096) (hd : isP p d) (h : S = d.iv * 2 ^ K) (up : Bool) : rnd K S p up = some d := by
  subst h
  cases up with
  | false =>
    rcases rnd_down (K := K) (S := d.iv * 2 ^ K) hp hp2 with ⟨_, h2⟩ | ⟨x, h1, h2, h3, h4⟩
    · exact absurd (Int.le_refl _) (h2 d hd)
    · rw [h1]
      have a := Int.le_of_mul_le_mul_right h3 (twoK_pos K)
      have b := h4 d hd (Int.le_refl _)
      exact congrArg some (Dy.iv_inj h2.1 hd.1 (Int.le_antisymm a b))
  | true =>
    rcases rnd_up (K := K) (S := d.iv * 2 ^ K) hp hp2 with ⟨_, h2⟩ | ⟨x, h1, h2, h3, h4⟩
    · exact absurd (Int.le_refl _) (h2 d hd)
    · rw [h1]
      have a := Int.le_of_mul_le_mul_right h3 (twoK_pos K)
      have b := h4 d hd (Int.le_refl _)
      exact congrArg some (Dy.iv_inj h2.1 hd.1 (Int.le_antisymm b a))
/-- a small integer -/
def intD (n : Int) : Dy := canon (decide (n < 0)) n.natAbs 0
theorem intD_iv (n : Int) : (intD n).iv = n * 2 ^ 16384 := by
  unfold intD
  rw [canon_iv _ _ _ (by omega), show ((0 : Int) + 16384).toNat = 16384 from rfl]
  generalize (16384 : Nat) = q
  unfold sg
  by_cases h : n < 0
  · rw [decide_eq_true h, if_pos rfl, Int.natCast_mul, Int.natCast_pow]
    have : ((n.natAbs : Nat) : Int) = -n := by omega
    rw [this, Int.neg_mul, Int.neg_neg]; rfl
  · rw [decide_eq_false h, if_neg (by decide), Int.natCast_mul, Int.natCast_pow]
    have : ((n.natAbs : Nat) : Int) = n := by omega
    rw [this]; rfl
theorem intD_isP {n : Int} {p : Nat} (hp : 0 < p) (hp2 : p ≤ 4096) (h : n.natAbs < 2 ^ p) : isP p (intD n) := by
  unfold intD
  by_cases h0 : n.natAbs = 0
  · rw [h0, canon_zero]; exact isP.zero p
  · have hb : bits n.natAbs ≤ p := bits_le.2 h
    have hm : (canon (decide (n < 0)) n.natAbs 0).m = oddp n.natAbs := by unfold canon; rw [if_neg h0]
    have ho := bits_oddp h0
    have ho2 := (oddp_spec h0).1
    refine ⟨(canon_ok_iff _ _ _).2 ?_, by rw [hm]; omega⟩
    unfold inr canon
    rw [if_neg h0]
    refine .inr ?_
    dsimp only
    omega
theorem muP_int {a b : Int} {p : Nat} (hp : 8 ≤ p) (hp2 : p ≤ 512) (h : (a * b).natAbs < 2 ^ p) (up : Bool) : muP (intD a) (intD b) p up = (intD (a * b), 0) := by
  unfold muP
  rw [rnd_exact (K := 16384) (by omega) (by omega) (intD_isP (by omega) (by omega) h) _ up]
  · rfl
  · rw [intD_iv, intD_iv, intD_iv]
    generalize (2 : Int) ^ 16384 = Q
    rw [Int.mul_assoc, Int.mul_left_comm Q b Q, ← Int.mul_assoc, ← Int.mul_assoc]
theorem adP_int {a b : Int} {p : Nat} (hp : 8 ≤ p) (hp2 : p ≤ 512) (h : (a + b).natAbs < 2 ^ p) (up : Bool) : adP (intD a) (intD b) p up = (intD (a + b), 0) := by
  unfold adP
  rw [rnd_exact (K := 0) (by omega) (by omega) (intD_isP (by omega) (by omega) h) _ up]
  · rfl
  · rw [intD_iv, intD_iv, intD_iv, Int.pow_zero, Int.mul_one, Int.add_mul]
/-- an interval with integers as ends -/
def pnI (a b : Int) : PI := ⟨intD a, intD b, false⟩
theorem pAdd_int {a b c d : Int} {p : Nat} (hp : 8 ≤ p) (hp2 : p ≤ 512) (h : (a + c).natAbs < 2 ^ p) (h2 : (b + d).natAbs < 2 ^ p) : pAdd (pnI a b) (pnI c d) p = pnI (a + c) (b + d) := by
  unfold pAdd pnI mkI
  simp only [Bool.or_self, Bool.false_eq_true, if_false]
  rw [adP_int hp hp2 h, adP_int hp hp2 h2]
  rfl
theorem pMul_pt {a b : Int} {p : Nat} (hp : 8 ≤ p) (hp2 : p ≤ 512) (h : (a * b).natAbs < 2 ^ p) : pMul (pnI a a) (pnI b b) p = pnI (a * b) (a * b) := by
  unfold pMul pairsP pnI
  simp only [Bool.or_self, Bool.false_eq_true, if_false, fourP, muP_int hp hp2 h]
  simp
end Go.Proofs.YtdidocdpjiiedaaGreatDoor
end

section
namespace Go.Proofs.YtdidocdpjiiedaaGreatDoor
open Go.RowKit

/-- a slice of such slices -/
def RowT (w : World) (a : Option Addr) (m : List (List (List RI))) : Prop :=
  ∀ i r, m[i]? = some r → ∃ b o ra rc, a = some ⟨b, o, none⟩ ∧ w.cell? ⟨b, o + i, none⟩ = some (.slice ra r.length rc) ∧ RowM w ra r ∧ r.length ≤ 1100000
theorem RowT.kp {w w' : World} {a : Option Addr} {m : List (List (List RI))} (h : RowT w a m) (k : Kp w w') : RowT w' a m := by
  intro i r hi
  obtain ⟨b, o, ra, rc, h1, h2, h3, h4⟩ := h i r hi
  exact ⟨b, o, ra, rc, h1, k.cell h2, h3.kp k, h4⟩

/-- the first index at which p answers true; -1 if there is none -/
def firstT (p : List (List RI) → Bool) (zs : List (List (List RI))) : Int := match zs.findIdx? p with | some i => (i : Int) | none => -1
theorem firstT_some {p : List (List RI) → Bool} {zs : List (List (List RI))} {k : Nat} {x : List (List RI)} (hk : zs[k]? = some x) (hp : p x = true) (h : ∀ i y, zs[i]? = some y → i < k → p y = false) : firstT p zs = k := by
  unfold firstT
  have : zs.findIdx? p = some k := by
    rw [List.findIdx?_eq_some_iff_getElem]
    obtain ⟨h1, h2⟩ := List.getElem?_eq_some_iff.1 hk
    refine ⟨h1, by rw [h2]; exact hp, fun j hj => ?_⟩
    rw [h j _ (List.getElem?_eq_getElem (by omega)) hj]; decide
  rw [this]
theorem firstT_none {p : List (List RI) → Bool} {zs : List (List (List RI))} (h : ∀ (i : Nat) (y : List (List RI)), zs[i]? = some y → p y = false) : firstT p zs = -1 := by
  unfold firstT
  have : zs.findIdx? p = none := by
    rw [List.findIdx?_eq_none_iff]
    intro y hy
    obtain ⟨i, hi⟩ := List.getElem?_of_mem hy
    exact h i y hi
  rw [this]
theorem firstT_any (p : List (List RI) → Bool) (zs : List (List (List RI))) : decide (0 ≤ firstT p zs) = zs.any p := by
  unfold firstT
  cases h : zs.findIdx? p with
  | some i =>
    have hm := List.findIdx?_eq_some_iff_getElem.1 h
    obtain ⟨h1, h2, _⟩ := hm
    have : zs.any p = true := List.any_eq_true.2 ⟨_, List.getElem_mem h1, h2⟩
    rw [this]; simp
  | none =>
    have hm := List.findIdx?_eq_none_iff.1 h
    have : zs.any p = false := by rw [List.any_eq_false]; intro y hy; rw [hm y hy]; decide
    rw [this]; decide
/-- the function g with the captured values cap answers p at each element, in whatever later world, and keeps all that was there -/
def AnsT (P : Program) (g : FuncId) (cap : Array Value) (w : World) (zs : List (List (List RI))) (p : List (List RI) → Bool) : Prop :=
  Enters P g ∧ ∀ x, x ∈ zs → ∀ a c w1, Kp w w1 → RowM w1 a x ∧ x.length ≤ 1100000 → Calls P g (#[.slice a x.length c] ++ cap) w1 fun e w2 => e = .returned (.bool (p x)) ∧ Kp w1 w2

set_option maxHeartbeats 4000000 in
theorem idxT (a : Option Addr) (zs : List (List (List RI))) (c : Nat) (g : FuncId) (cap : Array Value) (w : World) (p : List (List RI) → Bool) (hm : zs.length ≤ 1100000) (h : RowT w a zs) (hp : AnsT Tryz.prog g cap w zs p) :
    Calls Tryz.prog 107 #[.slice a zs.length c, .func (.func g) #[] cap] w fun e w' => e = .returned (.int .i64 (firstT p zs)) ∧ Kp w w' := by
  go_enter Tryz.func107, Tryz.ntmps107
  go_wp2
  go_loopw [8] (fun x wr => ∃ k : Nat, k ≤ zs.length ∧ x = .int .i64 k ∧ (∀ i y, zs[i]? = some y → i < k → p y = false) ∧ Kp w wr) (fun x _ => zs.length - (intOf x).toNat)
  case atStart => exact ⟨0, by omega, rfl, fun i y _ h1 => by omega, .refl _⟩
  case round =>
    obtain ⟨k, hk, rfl, hz, hkp⟩ := hrel
    have Hz := Lib.hid hz; clear hz
    by_cases hlt : k < zs.length
    · obtain ⟨b, o, ra, rc, rfl, hcell, hrow⟩ := (h.kp hkp) k (zs[k]) (List.getElem?_eq_getElem hlt)
      have Hg := Lib.hid (List.getElem?_eq_getElem hlt)
      have hgo : ∀ args w, (callFunc g args).run Tryz.prog w = .ok (.enter g args) w := hp.1
      have hcall := hp.2 _ (List.getElem_mem hlt) ra rc wr hkp hrow
      clear hp h hrow
      generalize zs[k] = x at *
      cases hq : p x with
      | true =>
        rw [hq] at hcall
        have Hc := Lib.hid hcall
        have Hq := Lib.hid (firstT_some Hg.out hq Hz.out)
        clear hcall hq
        go_wp2_with (refine Hc.out.mono ?_; rintro e w2 ⟨rfl, hk2⟩)
        go_ret
        exact ⟨ret_int Hq.out.symm, hkp.trans hk2⟩
      | false =>
        rw [hq] at hcall
        have Hc := Lib.hid hcall
        have Hq := Lib.hid hq
        clear hcall hq
        go_wp2_with (refine Hc.out.mono ?_; rintro e w2 ⟨rfl, hk2⟩)
        go_roundw
        case rel =>
          refine ⟨k + 1, by omega, by go_num, fun i y hy hi => ?_, hkp.trans hk2⟩
          by_cases h : i = k
          · subst h; rw [Hg.out] at hy; cases hy; exact Hq.out
          · exact Hz.out i y hy (by omega)
        case measure => simp [intOf]; omega
    · have Hthis := Lib.hid (firstT_none (p := p) (zs := zs) (fun i y hy => Hz.out i y hy (by have := (List.getElem?_eq_some_iff.1 hy).1; omega)))
      go_wp2
      go_ret
      exact ⟨ret_int Hthis.out.symm, hkp⟩

set_option maxHeartbeats 400000 in
theorem containsT (a : Option Addr) (zs : List (List (List RI))) (c : Nat) (g : FuncId) (cap : Array Value) (w : World) (p : List (List RI) → Bool) (hm : zs.length ≤ 1100000) (h : RowT w a zs) (hp : AnsT Tryz.prog g cap w zs p) :
    Calls Tryz.prog 52 #[.slice a zs.length c, .func (.func g) #[] cap] w fun e w' => e = .returned (.bool (zs.any p)) ∧ Kp w w' := by
  have Hc := Lib.hid (idxT a zs c g cap w p hm h hp)
  have Ha := Lib.hid (firstT_any p zs)
  clear hp h
  go_enter Tryz.func52, Tryz.ntmps52
  go_wp2_with (refine Hc.out.mono ?_; rintro e w2 ⟨rfl, hk2⟩)
  go_ret
  exact ⟨by rw [← Ha.out]; rfl, hk2⟩
end Go.Proofs.YtdidocdpjiiedaaGreatDoor
end

section
namespace Go.Proofs.YtdidocdpjiiedaaGreatDoor
open Go.RowKit

/-- All -/
def wholeR : RI := ⟨rdZero, rdZero, true⟩
theorem wholeR_rd (w : World) : wholeR.rd w := ⟨rdZero_rd w, rdZero_rd w⟩
/-- the interval in row i, column j -/
def atR (m : List (List RI)) (i j : Nat) : RI := (m.getD i []).getD j wholeR
def atP (m : List (List RI)) (i j : Nat) : PI := (atR m i j).pl
theorem atR_eq {m : List (List RI)} {i j : Nat} {r : List RI} {x : RI} (hr : m[i]? = some r) (hx : r[j]? = some x) : atR m i j = x := by
  unfold atR
  have h1 : m.getD i [] = r := by rw [List.getD_eq_getElem?_getD, hr]; rfl
  rw [h1, List.getD_eq_getElem?_getD, hx]; rfl
theorem atP_eq {m : List (List RI)} {i j : Nat} {r : List RI} {x : RI} (hr : m[i]? = some r) (hx : r[j]? = some x) : atP m i j = x.pl := by unfold atP; rw [atR_eq hr hx]
/-- the columns -/
def colsM (m : List (List RI)) : Nat := (m.headD []).length
/-- is it a valid matrix? -/
def vlM (m : List (List RI)) : Bool := decide (1 ≤ m.length ∧ m.length ≤ 8) && (decide (1 ≤ colsM m ∧ colsM m ≤ 8) && m.all fun r => decide (r.length = colsM m) && r.all RI.vl)
theorem vlM_iff {m : List (List RI)} : vlM m = true ↔ (1 ≤ m.length ∧ m.length ≤ 8) ∧ (1 ≤ colsM m ∧ colsM m ≤ 8) ∧ ∀ r ∈ m, r.length = colsM m ∧ ∀ x ∈ r, x.vl = true := by
  unfold vlM
  simp only [Bool.and_eq_true, decide_eq_true_eq, List.all_eq_true]
theorem vlM_row {m : List (List RI)} (h : vlM m = true) {i : Nat} {r : List RI} (hi : m[i]? = some r) : r.length = colsM m ∧ ∀ x ∈ r, x.vl = true :=
  (vlM_iff.1 h).2.2 r (List.mem_of_getElem? hi)
theorem vlM_get {m : List (List RI)} (h : vlM m = true) {i j : Nat} (hi : i < m.length) (hj : j < colsM m) : ∃ r x, m[i]? = some r ∧ r[j]? = some x ∧ x.vl = true ∧ atR m i j = x := by
  have h1 := vlM_row h (List.getElem?_eq_getElem hi)
  have hj2 : j < (m[i]).length := by omega
  exact ⟨_, _, List.getElem?_eq_getElem hi, List.getElem?_eq_getElem hj2, h1.2 _ (List.getElem_mem hj2), atR_eq (List.getElem?_eq_getElem hi) (List.getElem?_eq_getElem hj2)⟩
def plR (r : List RI) : List PI := r.map RI.pl
/-- the numbers of a matrix -/
def plM (m : List (List RI)) : List (List PI) := m.map plR
/-- all its intervals are valid -/
def okM (m : List (List RI)) : Prop := ∀ r ∈ m, ∀ x ∈ r, x.vl = true
/-- the matrix of what F gives -/
def rowF (k : Nat) (F : Nat → PI) : List PI := (List.range k).map F
def tabM (n k : Nat) (F : Nat → Nat → PI) : List (List PI) := (List.range n).map fun i => rowF k (F i)
theorem rowF_snoc (k : Nat) (F : Nat → PI) : rowF (k + 1) F = rowF k F ++ [F k] := by unfold rowF; rw [List.range_succ, List.map_append]; rfl
theorem tabM_snoc (n k : Nat) (F : Nat → Nat → PI) : tabM (n + 1) k F = tabM n k F ++ [rowF k (F n)] := by unfold tabM; rw [List.range_succ, List.map_append]; rfl
theorem plR_snoc (r : List RI) (x : RI) : plR (r ++ [x]) = plR r ++ [x.pl] := by unfold plR; rw [List.map_append]; rfl
theorem plM_snoc (m : List (List RI)) (r : List RI) : plM (m ++ [r]) = plM m ++ [plR r] := by unfold plM; rw [List.map_append]; rfl
theorem okM_snoc {m : List (List RI)} {r : List RI} (h : okM m) (hr : ∀ x ∈ r, x.vl = true) : okM (m ++ [r]) := by
  intro q hq
  rcases List.mem_append.1 hq with hq | hq
  · exact h q hq
  · simp only [List.mem_singleton] at hq; subst hq; exact hr
theorem ok_snoc {r : List RI} {x : RI} (h : ∀ x ∈ r, x.vl = true) (hx : x.vl = true) : ∀ y ∈ r ++ [x], y.vl = true := by
  intro y hy
  rcases List.mem_append.1 hy with hy | hy
  · exact h y hy
  · simp only [List.mem_singleton] at hy; subst hy; exact hx
theorem plM_of {m : List (List RI)} (h : vlM m = true) : plM m = tabM m.length (colsM m) (atP m) := by
  refine List.ext_getElem (by simp [plM, tabM]) fun i h1 h2 => ?_
  have hi : i < m.length := by simpa [plM] using h1
  have hr := vlM_row h (List.getElem?_eq_getElem hi)
  simp only [plM, tabM, List.getElem_map, List.getElem_range]
  refine List.ext_getElem (by simp [plR, rowF, hr.1]) fun j h3 h4 => ?_
  have hj : j < (m[i]).length := by simpa [plR] using h3
  simp only [plR, rowF, List.getElem_map, List.getElem_range]
  rw [atP_eq (List.getElem?_eq_getElem hi) (List.getElem?_eq_getElem hj)]
/-- the negative -/
def PI.neg (X : PI) : PI := if X.all then .whole else ⟨X.hi.opp, X.lo.opp, false⟩
/-- sums of products, in order -/
def dotF (p : Nat) (f g : Nat → PI) : Nat → PI
  | 0 => pMul (f 0) (g 0) p
  | t + 1 => pAdd (dotF p f g t) (pMul (f (t + 1)) (g (t + 1)) p) p
/-- the product of matrices -/
def mulF (a b : List (List RI)) (p : Nat) : List (List PI) := tabM a.length (colsM b) fun i j => dotF p (atP a i) (fun t => atP b t j) (colsM a - 1)
/-- two intervals of the same numbers, both valid, have the same fields -/
theorem pl_all {x y : RI} (h : x.pl = y.pl) : x.all = y.all := congrArg PI.all h
theorem pl_lo {x y : RI} (h : x.pl = y.pl) : x.lo.dy = y.lo.dy := congrArg PI.lo h
theorem pl_hi {x y : RI} (h : x.pl = y.pl) : x.hi.dy = y.hi.dy := congrArg PI.hi h
end Go.Proofs.YtdidocdpjiiedaaGreatDoor
end

section
namespace Go.Proofs.YtdidocdpjiiedaaGreatDoor
open Go.RowKit

def longR (x : RD) : Bool := decide (6 < x.xs.length)
def wideR (x : RI) : Bool := longR x.lo || longR x.hi
theorem long7_any (x : RD) (w : World) :
    Calls Tryz.prog 71 #[.agg #[.bool x.neg, .slice x.a x.xs.length x.c, .int .i64 x.e]] w fun e w' => e = .returned (.bool (longR x)) ∧ Kp w w' := by
  have H := Lib.hid (show longR x = decide (6 < (x.xs.length : Int)) by unfold longR; congr 1; exact propext ⟨fun h => by omega, fun h => by omega⟩)
  go_enter Tryz.func71, Tryz.ntmps71
  go_wp2_with fail
  go_ret
  exact ⟨ret_bool H.out.symm, (Kp.refl w).alloc _⟩
set_option maxHeartbeats 1000000 in
theorem wide7_any (x : RI) (w : World) :
    Calls Tryz.prog 21 #[.agg #[.bool x.lo.neg, .slice x.lo.a x.lo.xs.length x.lo.c, .int .i64 x.lo.e, .bool x.hi.neg, .slice x.hi.a x.hi.xs.length x.hi.c, .int .i64 x.hi.e, .bool x.all]] w fun e w' => e = .returned (.bool (wideR x)) ∧ Kp w w' := by
  have H := Lib.hid (show wideR x = (longR x.lo || longR x.hi) from rfl)
  have k1 := (Kp.refl w).alloc (.cells #[.bool x.lo.neg, .slice x.lo.a x.lo.xs.length x.lo.c, .int .i64 x.lo.e, .bool x.hi.neg, .slice x.hi.a x.hi.xs.length x.hi.c, .int .i64 x.hi.e, .bool x.all] 43)
  go_enter Tryz.func21, Tryz.ntmps21
  go_wp2_with fail
  generalize hW : w.alloc _ = W at *
  have hS : W.cell? ⟨w.heap.size, 0, none⟩ = some (.bool x.lo.neg) ∧ W.cell? ⟨w.heap.size, 1, none⟩ = some (.slice x.lo.a x.lo.xs.length x.lo.c) ∧ W.cell? ⟨w.heap.size, 2, none⟩ = some (.int .i64 x.lo.e) ∧ W.cell? ⟨w.heap.size, 3, none⟩ = some (.bool x.hi.neg) ∧ W.cell? ⟨w.heap.size, 4, none⟩ = some (.slice x.hi.a x.hi.xs.length x.hi.c) ∧ W.cell? ⟨w.heap.size, 5, none⟩ = some (.int .i64 x.hi.e) ∧ W.cell? ⟨w.heap.size, 6, none⟩ = some (.bool x.all) := by rw [← hW]; simp
  clear hW
  go_fit (long7_any x.lo _)
  rintro e w1 ⟨rfl, k2⟩
  cases hv : longR x.lo with
  | true =>
    rw [hv] at H
    go_wp2_with fail
    go_ret
    exact ⟨ret_bool (by rw [H.out]; rfl), k1.trans k2⟩
  | false =>
    rw [hv] at H
    obtain ⟨s0, s1, s2, s3, s4, s5, s6⟩ := keep7 k2 hS
    clear hS
    go_wp2_with fail
    go_fit (long7_any x.hi _)
    rintro e w2 ⟨rfl, k3⟩
    go_wp2_with fail
    go_ret
    exact ⟨ret_bool (by rw [H.out]; rfl), (k1.trans k2).trans k3⟩
/-- a row that exceeds the law's limits -/
def bigR (r : List RI) : Bool := decide (20 < r.length) || r.any wideR
theorem gr7row_any (r : List RI) (a : Option Addr) (c : Nat) (w : World) (hr : RowI w a r) (hl : r.length ≤ 1100000) :
    Calls Tryz.prog 54 #[.slice a r.length c] w fun e w' => e = .returned (.bool (bigR r)) ∧ Kp w w' := by
  have hp : AnsI Tryz.prog 21 #[] w r wideR := ⟨fun _ _ => by kernel_rfl, fun x hx w1 k => wide7_any x w1⟩
  have HC := Lib.hid (containsI a r c _ _ w _ hl hr hp)
  clear hp hr
  by_cases h : 20 < r.length
  · have H := Lib.hid (show bigR r = true by unfold bigR; rw [decide_eq_true h]; rfl)
    have g : (20 : Int) < (r.length : Int) := by omega
    clear h
    go_enter Tryz.func54, Tryz.ntmps54
    go_wp2_with fail
    go_ret
    exact ⟨ret_bool H.out.symm, .refl _⟩
  · have H := Lib.hid (show bigR r = r.any wideR by unfold bigR; rw [decide_eq_false h]; rfl)
    have g : ¬ (20 : Int) < (r.length : Int) := by omega
    clear h
    go_enter Tryz.func54, Tryz.ntmps54
    go_wp2_with fail
    go_fit HC.out
    rintro e w1 ⟨rfl, k1⟩
    go_wp2_with fail
    go_ret
    exact ⟨ret_bool H.out.symm, k1⟩
/-- a matrix that exceeds the law's limits -/
def greatM (m : List (List RI)) : Bool := (decide (6 < m.length) && decide (m.length ≤ 8)) || (decide (20 < m.length) || m.any bigR)
theorem gr7mat_any (m : List (List RI)) (a : Option Addr) (c : Nat) (w : World) (hm : RowM w a m) (hl : m.length ≤ 1100000) :
    Calls Tryz.prog 53 #[.slice a m.length c] w fun e w' => e = .returned (.bool (greatM m)) ∧ Kp w w' := by
  have hp : AnsR Tryz.prog 54 #[] w m bigR := ⟨fun _ _ => by kernel_rfl, fun r hr ra rc w1 k hrow => gr7row_any r ra rc w1 hrow.1 hrow.2⟩
  have HC := Lib.hid (containsR a m c _ _ w _ hl hm hp)
  clear hp hm
  by_cases h6 : 6 < m.length
  · have g6 : (6 : Int) < (m.length : Int) := by omega
    by_cases h8 : m.length ≤ 8
    · have H := Lib.hid (show greatM m = true by unfold greatM; rw [decide_eq_true h6, decide_eq_true h8]; rfl)
      have g8 : (m.length : Int) ≤ 8 := by omega
      clear h6 h8
      go_enter Tryz.func53, Tryz.ntmps53
      go_wp2_with fail
      go_ret
      exact ⟨ret_bool H.out.symm, .refl _⟩
    · have g8 : ¬ (m.length : Int) ≤ 8 := by omega
      by_cases h20 : 20 < m.length
      · have H := Lib.hid (show greatM m = true by unfold greatM; rw [decide_eq_true h20]; simp)
        have g20 : (20 : Int) < (m.length : Int) := by omega
        clear h6 h8 h20
        go_enter Tryz.func53, Tryz.ntmps53
        go_wp2_with fail
        go_ret
        exact ⟨ret_bool H.out.symm, .refl _⟩
      · have H := Lib.hid (show greatM m = m.any bigR by unfold greatM; rw [decide_eq_false h8, decide_eq_false h20]; simp)
        have g20 : ¬ (20 : Int) < (m.length : Int) := by omega
        clear h6 h8 h20
        go_enter Tryz.func53, Tryz.ntmps53
        go_wp2_with fail
        go_fit HC.out
        rintro e w1 ⟨rfl, k1⟩
        go_wp2_with fail
        go_ret
        exact ⟨ret_bool H.out.symm, k1⟩
  · have g6 : ¬ (6 : Int) < (m.length : Int) := by omega
    have g20 : ¬ (20 : Int) < (m.length : Int) := by omega
    have H := Lib.hid (show greatM m = m.any bigR by unfold greatM; rw [decide_eq_false h6, decide_eq_false (by omega : ¬ 20 < m.length)]; simp)
    clear h6
    go_enter Tryz.func53, Tryz.ntmps53
    go_wp2_with fail
    go_fit HC.out
    rintro e w1 ⟨rfl, k1⟩
    go_wp2_with fail
    go_ret
    exact ⟨ret_bool H.out.symm, k1⟩
theorem great7_any (l : List (List (List RI))) (a : Option Addr) (c : Nat) (w : World) (hm : RowT w a l) (hl : l.length ≤ 1100000) :
    Calls Tryz.prog 12 #[.slice a l.length c] w fun e w' => e = .returned (.bool (l.any greatM)) ∧ Kp w w' := by
  have hp : AnsT Tryz.prog 53 #[] w l greatM := ⟨fun _ _ => by kernel_rfl, fun r hr ra rc w1 k hrow => gr7mat_any r ra rc w1 hrow.1 hrow.2⟩
  have HC := Lib.hid (containsT a l c _ _ w _ hl hm hp)
  clear hp hm
  go_enter Tryz.func12, Tryz.ntmps12
  go_wp2_with fail
  go_fit HC.out
  rintro e w1 ⟨rfl, k1⟩
  go_wp2_with fail
  go_ret
  exact ⟨rfl, k1⟩
def fineP (p : Int) : Bool := decide (p ≤ 128) || decide (512 < p)
theorem fine7_any (p : Int) (w : World) :
    Calls Tryz.prog 13 #[.int .i64 p] w fun e w' => e = .returned (.bool (fineP p)) ∧ w = w' := by
  by_cases h1 : p ≤ 128
  · have H := Lib.hid (show fineP p = true by unfold fineP; rw [decide_eq_true h1]; rfl)
    go_enter Tryz.func13, Tryz.ntmps13
    go_wp2_with fail
    go_ret
    exact ⟨ret_bool (by first | exact H.out.symm | (rw [H.out]; simp; omega)), rfl⟩
  · have H := Lib.hid (show fineP p = decide (512 < p) by unfold fineP; rw [decide_eq_false h1]; rfl)
    go_enter Tryz.func13, Tryz.ntmps13
    go_wp2_with fail
    go_ret
    exact ⟨ret_bool (by first | exact H.out.symm | (rw [H.out]; simp; omega)), rfl⟩
end Go.Proofs.YtdidocdpjiiedaaGreatDoor
end

section
namespace Go.Proofs.YtdidocdpjiiedaaGreatDoor
open Go.RowKit

theorem limbs_one7 {m : Nat} (h0 : 0 < m) (h1 : m < 4294967296) : limbs m = [m] := by
  rw [limbs_pos (by omega), Nat.mod_eq_of_lt h1, Nat.div_eq_of_lt h1, limbs_zero]
theorem intD_oks {n : Int} (h : n.natAbs ≤ 1000) : (intD n).ok := (intD_isP (p := 10) (by decide) (by decide) (by omega)).1
theorem intD_eqs {d : Dy} {n : Int} (hd : d.ok) (hn : n.natAbs ≤ 1000) (h : d.iv = n * 2 ^ 16384) : d = intD n := Dy.iv_inj hd (intD_oks hn) (h.trans (intD_iv n).symm)
theorem Box3.setN {w : World} {g : Nat} {x0 x1 x2 : Value} (h : Box3 w g x0 x1 x2) (hx : ∀ n : Int, x2 ≠ .int .u32 n) (v : Value) : Box3 (w.setCell ⟨g, 2, none⟩ v) g x0 x1 v ∧ Upd g w (w.setCell ⟨g, 2, none⟩ v) := by
  obtain ⟨h0, h1, h2, f0, f1, f2⟩ := h
  have U := (Upd.refl g w).step h2 hx v
  exact ⟨⟨set_at (by decide) h0, set_at (by decide) h1, cell_set_eq h2, (U.1 _).trans f0, (U.1 _).trans f1, (U.1 _).trans f2⟩, U⟩
theorem Box3.setM {w : World} {g : Nat} {x0 x1 x2 : Value} (h : Box3 w g x0 x1 x2) (hx : ∀ n : Int, x1 ≠ .int .u32 n) (v : Value) : Box3 (w.setCell ⟨g, 1, none⟩ v) g x0 v x2 ∧ Upd g w (w.setCell ⟨g, 1, none⟩ v) := by
  obtain ⟨h0, h1, h2, f0, f1, f2⟩ := h
  have U := (Upd.refl g w).step h1 hx v
  exact ⟨⟨set_at (by decide) h0, cell_set_eq h1, set_at (by decide) h2, (U.1 _).trans f0, (U.1 _).trans f1, (U.1 _).trans f2⟩, U⟩
theorem Upd.box3 {g b : Nat} {w W : World} (h : Upd g w W) (hb : b ≠ g) {x0 x1 x2 : Value} (f : Box3 w b x0 x1 x2) : Box3 W b x0 x1 x2 := by
  obtain ⟨h1, _, _, h4, _⟩ := h
  have key (i : Nat) : W.cell? ⟨b, i, none⟩ = w.cell? ⟨b, i, none⟩ := h4 _ hb
  unfold Box3
  simp only [key, h1]
  exact f
set_option maxHeartbeats 4000000 in
theorem num7_any (n : Int) (w : World) (h0 : n ≠ 0) (hb : n.natAbs ≤ 1000) :
    Calls Tryz.prog 51 #[.int .i64 n] w fun e w' => ∃ y : RD, e = .returned (.agg #[.bool y.neg, .slice y.a y.xs.length y.c, .int .i64 y.e]) ∧ y.ok w' ∧ y.dy = intD n ∧ Kp w w' := by
  have hlo : -1000 ≤ n := by omega
  have hhi : n ≤ 1000 := by omega
  obtain ⟨N, hN⟩ : ∃ N : Nat, N = n.natAbs := ⟨_, rfl⟩
  have hmax : max n (-n) = (N : Int) := by omega
  have hz1 : ((N : Int) == 0) = false := beq_eq_false_iff_ne.2 (by omega)
  have HN := Lib.hid (And.intro hN (show 0 < N ∧ N ≤ 1000 by omega))
  obtain ⟨B, hB⟩ : ∃ B : Bool, B = decide (n < 0) := ⟨_, rfl⟩
  have HB := Lib.hid hB
  clear hN h0 hb
  go_enter Tryz.func51, Tryz.ntmps51
  go_upto_region 3 with fail
  rw [← hB]
  clear hB
  have hO : Box3 ((w.alloc (.cells #[.bool false, .slice none 0 0, .int .i64 0] 28)).alloc (.cells #[.bool B, .slice none 0 0, .int .i64 0] 28)) w.heap.size (.bool false) (.slice none 0 0) (.int .i64 0) := (Box3.new w _ _ _ _).kp ((Kp.refl _).alloc _)
  have hD : Box3 ((w.alloc (.cells #[.bool false, .slice none 0 0, .int .i64 0] 28)).alloc (.cells #[.bool B, .slice none 0 0, .int .i64 0] 28)) (w.heap.size + 1) (.bool B) (.slice none 0 0) (.int .i64 0) := by
    have := Box3.new (w.alloc (.cells #[.bool false, .slice none 0 0, .int .i64 0] 28)) (.bool B) (.slice none 0 0) (.int .i64 0) 28
    rwa [World.size_alloc] at this
  have hk : Kp w ((w.alloc (.cells #[.bool false, .slice none 0 0, .int .i64 0] 28)).alloc (.cells #[.bool B, .slice none 0 0, .int .i64 0] 28)) := ((Kp.refl w).alloc _).alloc _
  generalize ((w.alloc (.cells #[.bool false, .slice none 0 0, .int .i64 0] 28)).alloc (.cells #[.bool B, .slice none 0 0, .int .i64 0] 28)) = W at *
  go_wp2_with fail
  go_loopg [0] N (fun q v wr => ∃ e : Nat, v = .int .i64 q ∧ 0 < q ∧ q * 2 ^ e = N ∧ Kp w wr ∧ Box3 wr w.heap.size (.bool false) (.slice none 0 0) (.int .i64 0) ∧ Box3 wr (w.heap.size + 1) (.bool B) (.slice none 0 0) (.int .i64 e))
  case atStart => exact ⟨0, rfl, HN.out.2.1, by simp, hk, hO, hD⟩
  case round =>
    obtain ⟨e, rfl, hq0, hqe, hkr, hOr, hDr⟩ := hrel
    have HQ := Lib.hid (And.intro hq0 hqe)
    have he10 : e ≤ 10 := by
      have h1 : 2 ^ e ≤ N := by rw [← hqe]; exact Nat.le_mul_of_pos_left _ hq0
      have h2 := HN.out.2.2
      exact Classical.byContradiction fun h => by
        have : 2 ^ 11 ≤ 2 ^ e := Nat.pow_le_pow_right (by decide) (by omega)
        omega
    have hq9 : gk ≤ 1000 := by have h1 : gk ≤ N := by { rw [← hqe]; exact Nat.le_mul_of_pos_right _ (Nat.pow_pos (by decide)) }; have := HN.out.2.2; omega
    have hj9 : (gk : Int) ≤ 1000 := by omega
    clear hO hD hk hqe
    rcases Nat.mod_two_eq_zero_or_one gk with hm | hm
    · obtain ⟨j, rfl⟩ : ∃ j, gk = 2 * j := ⟨gk / 2, by omega⟩
      have hr : Int.tmod ((2 * j : Nat) : Int) 2 = 0 := by rw [Int.tmod_eq_emod_of_nonneg (by omega)]; omega
      have hd : Int.tdiv ((2 * j : Nat) : Int) 2 = (j : Int) := by rw [Int.tdiv_eq_ediv_of_nonneg (by omega)]; omega
      obtain ⟨q0, q1, q2, f0, f1, f2⟩ := id hDr
      go_upto_region 6 with fail
      have hj8 : (j : Int) ≤ 1000 := by omega
      go_region
      go_wp2_with fail
      go_roundg j
      case measure => omega
      case rel =>
        have hE := Box3.setN hDr (fun _ h => by cases h) (.int .i64 ((e : Int) + 1))
        exact ⟨e + 1, by go_num, by omega, by rw [Nat.pow_succ, Nat.mul_comm (2 ^ e) 2, ← Nat.mul_assoc, Nat.mul_comm j 2]; exact HQ.out.2, (hE.2.2.2.1 _ hkr (by omega)).drew, (hE.2.box3 (by omega) hOr).kp (Kp.refl _).drew, hE.1.kp (Kp.refl _).drew⟩
    · have hr : Int.tmod ((gk : Nat) : Int) 2 = 1 := by rw [Int.tmod_eq_emod_of_nonneg (by omega)]; omega
      have hA := (Kp.refl wr).alloc (.cells #[.int .u32 (gk : Int)] 88)
      have hDA := hDr.kp hA
      obtain ⟨q0, q1, q2, f0, f1, f2⟩ := id hDA
      go_upto_region 8 with fail
      obtain ⟨hM, hU⟩ := Box3.setM hDA (fun _ h => by cases h) (.slice (some ⟨wr.heap.size, 0, none⟩) 1 1)
      have hRd : Rd (wr.alloc (.cells #[.int .u32 (gk : Int)] 88)) (some ⟨wr.heap.size, 0, none⟩) [gk] := ⟨by intro x hx; simp at hx; omega, .inr ⟨_, _, rfl, fun i hi => by
        obtain rfl : i = 0 := by simp at hi; omega
        simp [nth]⟩⟩
      have hRd2 := hU.2.1 _ _ hRd
      have hO2 := hU.box3 (by omega) (hOr.kp hA)
      have hK2 := hU.2.2.1 _ (hkr.trans hA) (by omega)
      clear q0 q1 q2 f0 f1 f2 hDA hA hRd hU hOr hDr hkr
      generalize ((wr.alloc _).setCell _ _) = W9 at *
      obtain ⟨q0, q1, q2, _⟩ := id hM
      obtain ⟨r0, r1, r2, f0, f1, f2⟩ := id hO2
      go_wp2_with fail
      have hst := stored r0 r1 r2 (fun _ h => by cases h) (fun _ h => by cases h) (fun _ h => by cases h) (.bool B) (.slice (some ⟨wr.heap.size, 0, none⟩) 1 1) (.int .i64 e)
      generalize (((W9.setCell _ _).setCell _ _).setCell _ _) = W8 at hst ⊢
      obtain ⟨s0, s1, s2, _, s4, s5, _, _⟩ := hst
      have hok : (⟨B, gk, (e : Int)⟩ : Dy).ok := by
        have hb1 : bits gk ≤ 10 := bits_le.2 (by omega)
        exact .inr ⟨hm, by show bits gk ≤ 4096; omega, by show (-16384 : Int) ≤ e; omega, by show (e : Int) ≤ 16384; omega, by show (bits gk : Int) + e ≤ 16384; omega⟩
      have hdy : (⟨B, gk, (e : Int)⟩ : Dy) = intD n := by
        refine intD_eqs hok ?_ ?_
        · omega
        · rw [iv_sg]
          show sg B gk * 2 ^ ((e : Int) + 16384).toNat = _
          rw [show ((e : Int) + 16384).toNat = e + 16384 from by omega, Int.pow_add, ← Int.mul_assoc]
          congr 1
          have hN9 : ((gk * 2 ^ e : Nat) : Int) = (n.natAbs : Int) := by rw [HQ.out.2, HN.out.1]
          rw [Int.natCast_mul, Int.natCast_pow] at hN9
          have hBn := HB.out
          unfold sg
          cases B with
          | true =>
            have : n < 0 := by simpa using hBn.symm
            rw [if_pos rfl, Int.neg_mul]
            have e9 : ((2 : Nat) : Int) = 2 := rfl
            rw [e9] at hN9
            omega
          | false =>
            have : ¬ n < 0 := by simpa using hBn.symm
            rw [if_neg (by decide)]
            have e9 : ((2 : Nat) : Int) = 2 := rfl
            rw [e9] at hN9
            omega
      have hl1 : limbs gk = [gk] := limbs_one7 (by omega) (by omega)
      refine bodyPost_ret (v := .agg #[.bool B, .slice (some ⟨wr.heap.size, 0, none⟩) 1 1, .int .i64 e]) (by simp [results, Tryz.results51, go_sem, s0, s1, s2]) rfl ?_
      refine ⟨rdOf ⟨B, gk, e⟩ (some ⟨wr.heap.size, 0, none⟩) 1, ?_, rdOf_ok hok (by show Rd W8 _ (limbs gk); rw [hl1]; exact s4 _ _ hRd2) (by show (limbs gk).length ≤ 1; rw [hl1]; exact Nat.le_refl _) (by decide), by rw [rdOf_dy]; exact hdy, s5 _ hK2 (by omega)⟩
      unfold rdOf
      show Ending.returned (.agg #[.bool B, .slice (some ⟨wr.heap.size, 0, none⟩) 1 1, .int .i64 e]) = .returned (.agg #[.bool B, .slice (some ⟨wr.heap.size, 0, none⟩) (limbs gk).length 1, .int .i64 e])
      rw [hl1]; rfl
end Go.Proofs.YtdidocdpjiiedaaGreatDoor
end
