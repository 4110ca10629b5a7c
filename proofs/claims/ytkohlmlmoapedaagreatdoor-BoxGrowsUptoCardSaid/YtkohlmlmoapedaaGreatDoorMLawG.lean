/-
  Walks: the law BoxGrows.
-/
import Derived.Test.YtkohlmlmoapedaaGreatDoorMLawGP
import Derived.Test.YtkohlmlmoapedaaGreatDoorMLawC
import Derived.Test.YtkohlmlmoapedaaGreatDoorMR2L
import Derived.Test.YtkohlmlmoapedaaGreatDoorMRoF
import Derived.Deep.Cut
import Derived.Deep.DrawnRows
namespace Go.Proofs.YtkohlmlmoapedaaGreatDoor
open Go.RowKit
attribute [local go_sem ↓] Go.wp_at_zero Go.wp_at_succ

theorem keep1 {w w' : World} (k : Kp w w') {p : Addr} {v : Value} (h : w.cell? p = some v) : w'.cell? p = some v := k.cell h
/-- does the law BoxGrows look? -/
def outG (zs ys : List RI) (eps : RD) : Bool := lrg zs [eps] || lrg ys []
set_option maxRecDepth 100000 in
set_option maxHeartbeats 32000000 in
theorem BoxGrows_ok (a b : Option Addr) (zs ys : List RI) (ca cb : Nat) (eps : RD) (w : World) (hz : RowI w a zs) (hzl : zs.length ≤ 1100000) (hy : RowI w b ys) (hyl : ys.length ≤ 1100000) (he : eps.rd w) (hT : Tab w) :
    Calls Tryz.prog 3 #[.slice a zs.length ca, .slice b ys.length cb, .agg #[.bool eps.neg, .slice eps.a eps.xs.length eps.c, .int .i64 eps.e]] w fun e w' => e = .returned (.bool true) ∧ Kp w w' := by
  go_enter Tryz.func3, Tryz.ntmps3
  go_upto_region 1 with fail
  generalize hW : w.alloc _ = W at *
  have hk : Kp w W := hW ▸ (Kp.refl w).alloc _
  have hS : W.cell? ⟨w.heap.size, 0, none⟩ = some (.bool eps.neg) ∧ W.cell? ⟨w.heap.size, 1, none⟩ = some (.slice eps.a eps.xs.length eps.c) ∧ W.cell? ⟨w.heap.size, 2, none⟩ = some (.int .i64 eps.e) := by rw [← hW]; simp
  clear hW
  go_cut [30] from 10 (fun s wx => s = .bool (outG zs ys eps) ∧ Kp W wx)
  case first =>
    go_wp2_with fail
    refine (awake_ok _ (hT.kp hk)).mono ?_
    rintro e w1 ⟨rfl, k1⟩
    obtain ⟨t0, t1, t2⟩ : w1.cell? ⟨w.heap.size, 0, none⟩ = some (.bool eps.neg) ∧ w1.cell? ⟨w.heap.size, 1, none⟩ = some (.slice eps.a eps.xs.length eps.c) ∧ w1.cell? ⟨w.heap.size, 2, none⟩ = some (.int .i64 eps.e) := ⟨k1.cell hS.1, k1.cell hS.2.1, k1.cell hS.2.2⟩
    have hrow := rowD_one w1 eps (he.kp (hk.trans k1)) 25
    have k2 := k1.alloc (.cells #[.bool eps.neg, .slice eps.a eps.xs.length eps.c, .int .i64 eps.e] 25)
    go_wp2_with fail
    refine (large_any a _ zs [eps] ca 1 _ (hz.kp (hk.trans k2)) hzl hrow (by simp)).mono ?_
    rintro e w3 ⟨rfl, k3⟩
    have h3 := k2.trans k3
    clear k1 k2 k3 hrow t0 t1 t2
    cases e0 : lrg zs [eps] with
    | true =>
      have Hg := Lib.hid (show outG zs ys eps = true by unfold outG; simp [e0])
      clear e0
      go_wp2_with fail
      go_meet
      case rel => exact ⟨by rw [Hg.out], h3⟩
    | false =>
      go_wp2_with fail
      refine (large_any b none ys [] cb 0 _ (hy.kp (hk.trans h3)) hyl (fun i x h => by simp at h) (by simp)).mono ?_
      rintro e w4 ⟨rfl, k4⟩
      have h4 := h3.trans k4
      clear k4
      have Hg := Lib.hid (show outG zs ys eps = lrg ys [] by unfold outG; simp [e0])
      clear e0
      go_wp2_with fail
      go_meet
      case rel => exact ⟨by rw [Hg.out], h4⟩
  case rest =>
    obtain ⟨rfl, h9⟩ := hcut
    obtain ⟨s0, s1, s2⟩ : wc.cell? ⟨w.heap.size, 0, none⟩ = some (.bool eps.neg) ∧ wc.cell? ⟨w.heap.size, 1, none⟩ = some (.slice eps.a eps.xs.length eps.c) ∧ wc.cell? ⟨w.heap.size, 2, none⟩ = some (.int .i64 eps.e) := ⟨h9.cell hS.1, h9.cell hS.2.1, h9.cell hS.2.2⟩
    have hkc := hk.trans h9
    clear hk h9 hS
    cases hg : outG zs ys eps with
    | true =>
      clear hg s0 s1 s2
      go_wp2_with fail
      refine (awake_ok _ (hT.kp hkc)).mono ?_
      rintro e w1 ⟨rfl, k1⟩
      go_wp2_with fail
      go_ret
      exact ⟨rfl, hkc.trans k1⟩
    | false =>
      clear hg
      go_wp2_with fail
      refine (BGrow_any a zs ca eps _ (hz.kp hkc) hzl (he.kp hkc) (hT.kp hkc)).mono ?_
      rintro e w1 (⟨f, hf, rfl, k1⟩ | ⟨ax, cx, xs, rfl, hx, hxc, hxm, k1, vz, ve, hp, okx, hgr⟩)
      · have hff : (f == 0) = false := by simpa using hf
        clear s0 s1 s2
        go_wp2_with fail
        go_ret
        exact ⟨rfl, hkc.trans k1⟩
      · have h1 := hkc.trans k1
        obtain ⟨t0, t1, t2⟩ : w1.cell? ⟨w.heap.size, 0, none⟩ = some (.bool eps.neg) ∧ w1.cell? ⟨w.heap.size, 1, none⟩ = some (.slice eps.a eps.xs.length eps.c) ∧ w1.cell? ⟨w.heap.size, 2, none⟩ = some (.int .i64 eps.e) := ⟨k1.cell s0, k1.cell s1, k1.cell s2⟩
        have oz := OkB.of hz vz
        have ox : OkB w1 xs := ⟨okx, by rw [← hgr.1]; exact oz.2.1, by rw [← hgr.1]; exact oz.2.2⟩
        have hxl : xs.length ≤ 1100000 := by have := ox.2.2; omega
        have HI := Lib.hid (grw_ins oz ox hp hgr)
        have HN := Lib.hid (grw_int ⟨he, ve⟩ oz ox hp hgr)
        clear s0 s1 s2 k1 hkc
        have Hp := Lib.hid hp
        have Hve := Lib.hid ve
        have Hvz := Lib.hid vz
        have Hox := Lib.hid ox
        have Hoz := Lib.hid oz
        have Hgr := Lib.hid hgr
        clear hp ve vz ox oz hgr okx
        go_wp2_with fail
        have HN2 := Lib.hid (show intB zs xs = decide ((0 : Int) < (eps.xs.length : Int)) by rw [HN.out]; simp)
        have h2 := h1.drew
        have d0 := (Kp.refl w1).drew.cell t0
        have d1 := (Kp.refl w1).drew.cell t1
        have d2 := (Kp.refl w1).drew.cell t2
        have hzd := hz.kp h2
        have hxd := hx.kp (Kp.refl w1).drew
        clear t0 t1 t2
        go_region_held3 (fun w' => w'.cell? ⟨w.heap.size, 1, none⟩ = some (.slice eps.a eps.xs.length eps.c)) (first | with_reducible assumption | with_reducible exact keep1 (by assumption) (by assumption))
          (first
            | (go_at_call 7; refine (BInside_any a ax zs xs ca cx _ hzd hzl hxd hxl).mono ?_; rw [HI.out]; rintro e w4 ⟨rfl, k4⟩)
            | (go_at_call 8; refine (BInterior_any a ax zs xs ca cx _ (hzd.kp k4) hzl (hxd.kp k4) hxl).mono ?_; rw [HN2.out]; rintro e w5 ⟨rfl, k5⟩))
        have hk5 := (h2.trans k4).trans k5
        have hx5 := (hxd.kp k4).kp k5
        obtain ⟨t0, t1, t2⟩ : w5.cell? ⟨w.heap.size, 0, none⟩ = some (.bool eps.neg) ∧ w5.cell? ⟨w.heap.size, 1, none⟩ = some (.slice eps.a eps.xs.length eps.c) ∧ w5.cell? ⟨w.heap.size, 2, none⟩ = some (.int .i64 eps.e) := ⟨k5.cell (k4.cell d0), k5.cell (k4.cell d1), k5.cell (k4.cell d2)⟩
        clear d0 d1 d2 k4 k5 h1 h2 hzd hxd HN2 HN HI
        have hl8 : zs.length ≤ 8 := Hoz.out.2.2
        go_wp2_with fail
        go_loopw [9, 10, 59] (fun v u x wr => ∃ k L M, k ≤ zs.length ∧ x = .int .i64 k ∧ Two w5 wr v u L M ∧ Ends RI.lo xs L k ∧ Ends RI.hi xs M k) (fun _ _ x _ => zs.length - (intOf x).toNat)
        case atStart => exact ⟨0, [], [], by omega, rfl, Two.nil (.refl _), Ends.nil _ _, Ends.nil _ _⟩
        case round =>
          obtain ⟨k, L, M, hk9, rfl, htwo, hL, hM⟩ := hrel
          have hk6 := htwo.1.1
          have hL8 : L.length + 1 ≤ 9000000 := by have := hL.1; omega
          have hM8 : M.length + 1 ≤ 9000000 := by have := hM.1; omega
          have HL := Lib.hid hL
          have HM := Lib.hid hM
          clear hL hM
          by_cases hlt : k < zs.length
          · have hxo := (vlB_ok ((hz.kp hk5).kp hk6) Hvz.out (List.getElem_mem hlt))
            obtain ⟨b1, o1, rfl, _⟩ := hz k (zs[k]) (List.getElem?_eq_getElem hlt)
            obtain ⟨_, _, e1, _, h0, h1, h2, h3, h4, h5, h6⟩ := ((hz.kp hk5).kp hk6) k (zs[k]) (List.getElem?_eq_getElem hlt)
            cases e1
            obtain ⟨z, Hgz⟩ : ∃ z, Hid (xs[k]? = some z) := by
              obtain ⟨z, hz⟩ := get_some Hgr.out.1 (List.getElem?_eq_getElem hlt)
              exact ⟨z, Lib.hid hz⟩
            have Hzo := Lib.hid (Hox.out.get Hgz.out)
            have Hzx := Lib.hid (Hgr.out.2 k _ z (List.getElem?_eq_getElem hlt) Hgz.out)
            generalize zs[k] = y at *
            rw [hxo.2.1] at h6
            have hi1 : (0 : Int) ≤ (k : Int) := by omega
            have hi2 : (k : Int) < (zs.length : Int) := by omega
            have r0 := hk6.cell t0
            have r1 := hk6.cell t1
            have r2 := hk6.cell t2
            have heo : eps.ok wr := ⟨(he.kp hk5).kp hk6, Hve.out⟩
            have hlt9 := World.block_lt_of_cell? wr _ r0
            have hA := (Kp.refl wr).alloc (.cells #[.bool y.lo.neg, .slice y.lo.a y.lo.xs.length y.lo.c, .int .i64 y.lo.e, .bool y.hi.neg, .slice y.hi.a y.hi.xs.length y.hi.c, .int .i64 y.hi.e, .bool false] 34)
            have q0 := hA.cell r0
            have q1 := hA.cell r1
            have q2 := hA.cell r2
            have Hc1 := Lib.hid (show chk (sumD y.lo.dy eps.dy.opp) = (z.lo.dy, 0) by
              have h8 : sumD y.lo.dy eps.dy.opp = z.lo.dy := by
                rw [← ofI_of_ok (rdok_dy Hzo.out.lo)]
                show ofI _ = ofI _
                congr 1
                have := Hzx.out.1
                rw [Dy.opp_iv]
                show y.lo.iv + -eps.iv = z.lo.iv
                omega
              rw [h8]; exact chk_of_ok (rdok_dy Hzo.out.lo))
            have Hc2 := Lib.hid (show chk (sumD y.hi.dy eps.dy) = (z.hi.dy, 0) by
              have h8 : sumD y.hi.dy eps.dy = z.hi.dy := by
                rw [← ofI_of_ok (rdok_dy Hzo.out.hi)]
                show ofI _ = ofI _
                congr 1
                have := Hzx.out.2
                show y.hi.iv + eps.iv = z.hi.iv
                omega
              rw [h8]; exact chk_of_ok (rdok_dy Hzo.out.hi))
            clear r0 r1 r2
            go_wp2_with fail
            generalize hW1 : wr.alloc _ = W1 at *
            have hX : W1.cell? ⟨wr.heap.size, 0, none⟩ = some (.bool y.lo.neg) ∧ W1.cell? ⟨wr.heap.size, 1, none⟩ = some (.slice y.lo.a y.lo.xs.length y.lo.c) ∧ W1.cell? ⟨wr.heap.size, 2, none⟩ = some (.int .i64 y.lo.e) ∧ W1.cell? ⟨wr.heap.size, 3, none⟩ = some (.bool y.hi.neg) ∧ W1.cell? ⟨wr.heap.size, 4, none⟩ = some (.slice y.hi.a y.hi.xs.length y.hi.c) ∧ W1.cell? ⟨wr.heap.size, 5, none⟩ = some (.int .i64 y.hi.e) ∧ W1.cell? ⟨wr.heap.size, 6, none⟩ = some (.bool false) := by rw [← hW1]; simp
            clear hW1 h0 h1 h2 h3 h4 h5 h6
            have hx1 := hxo.kp hA
            have he1 := heo.kp hA
            refine (r2Sub_rd y.lo eps _ hx1.lo he1).mono ?_
            rw [Hc1.out]
            rintro e w6 ⟨z1, rfl, rz1, hz1, vz1, hk7⟩
            have hA2 := hk7.alloc (.cells #[.bool z1.neg, .slice z1.a z1.xs.length z1.c, .int .i64 z1.e] 25)
            have hX2 := keep7 hA2 hX
            obtain ⟨p0, p1, p2⟩ : (w6.alloc (.cells #[.bool z1.neg, .slice z1.a z1.xs.length z1.c, .int .i64 z1.e] 25)).cell? ⟨w.heap.size, 0, none⟩ = some (.bool eps.neg) ∧ (w6.alloc (.cells #[.bool z1.neg, .slice z1.a z1.xs.length z1.c, .int .i64 z1.e] 25)).cell? ⟨w.heap.size, 1, none⟩ = some (.slice eps.a eps.xs.length eps.c) ∧ (w6.alloc (.cells #[.bool z1.neg, .slice z1.a z1.xs.length z1.c, .int .i64 z1.e] 25)).cell? ⟨w.heap.size, 2, none⟩ = some (.int .i64 eps.e) := ⟨hA2.cell q0, hA2.cell q1, hA2.cell q2⟩
            obtain ⟨x0, x1, x2, x3, x4, x5, x6⟩ := hX2
            go_wp2_with fail
            have hk66 := (Kp.refl w6).alloc (.cells #[.bool z1.neg, .slice z1.a z1.xs.length z1.c, .int .i64 z1.e] 25)
            generalize hW6 : w6.alloc _ = W6 at *
            have hY : W6.cell? ⟨w6.heap.size, 0, none⟩ = some (.bool z1.neg) ∧ W6.cell? ⟨w6.heap.size, 1, none⟩ = some (.slice z1.a z1.xs.length z1.c) ∧ W6.cell? ⟨w6.heap.size, 2, none⟩ = some (.int .i64 z1.e) := by rw [← hW6]; simp
            have hs6 : W6.heap.size = w6.heap.size + 1 := by rw [← hW6]; simp
            clear hW6 q0 q1 q2
            refine (r2Add_rd y.hi eps _ (hx1.hi.kp hA2) (he1.kp hA2)).mono ?_
            rw [Hc2.out]
            rintro e w7 ⟨z2, rfl, rz2, hz2, vz2, hk8⟩
            have hA3 := hk8.alloc (.cells #[.bool z2.neg, .slice z2.a z2.xs.length z2.c, .int .i64 z2.e] 25)
            have hY2 := keep3 hA3 hY
            clear x0 x1 x2 x3 x4 x5 x6 p0 p1 p2
            go_wp2_with fail
            have hk77 := (Kp.refl w7).alloc (.cells #[.bool z2.neg, .slice z2.a z2.xs.length z2.c, .int .i64 z2.e] 25)
            generalize hW7 : w7.alloc _ = W7 at *
            have hZ : W7.cell? ⟨w7.heap.size, 0, none⟩ = some (.bool z2.neg) ∧ W7.cell? ⟨w7.heap.size, 1, none⟩ = some (.slice z2.a z2.xs.length z2.c) ∧ W7.cell? ⟨w7.heap.size, 2, none⟩ = some (.int .i64 z2.e) := by rw [← hW7]; simp
            clear hW7
            have hkD := (Kp.refl W7).drew
            have htD := htwo.kp (((hA.trans hA2).trans hA3))
            have hv9 := htwo.1.lt
            have hu9 := htwo.2.1.lt
            have rz1D := rz1.kp (hk66.trans hA3)
            have rz2D := rz2.kp hk77
            have nB : wr.heap.size ≤ w6.heap.size := (hA.trans hk7).size
            have nC : wr.heap.size ≤ w7.heap.size := ((hA.trans hA2).trans hk8).size
            have nD : wr.heap.size ≤ W7.heap.size := (((hA.trans hA2).trans hA3)).size
            have hSS : W7.drew.cell? ⟨w6.heap.size, 0, none⟩ = some (.bool z1.neg) ∧ W7.drew.cell? ⟨w6.heap.size, 1, none⟩ = some (.slice z1.a z1.xs.length z1.c) ∧ W7.drew.cell? ⟨w6.heap.size, 2, none⟩ = some (.int .i64 z1.e) ∧ W7.drew.cell? ⟨w7.heap.size, 0, none⟩ = some (.bool z2.neg) ∧ W7.drew.cell? ⟨w7.heap.size, 1, none⟩ = some (.slice z2.a z2.xs.length z2.c) ∧ W7.drew.cell? ⟨w7.heap.size, 2, none⟩ = some (.int .i64 z2.e) := keepRR hkD ⟨hY2.1, hY2.2.1, hY2.2.2, hZ⟩
            clear htwo hX hA hA2 hA3 hk66 hk77 hk7 hk8 hxo hx1 heo he1 rz1 rz2 hkD
            have hSS7 : W7.cell? ⟨w6.heap.size, 0, none⟩ = some (.bool z1.neg) ∧ W7.cell? ⟨w6.heap.size, 1, none⟩ = some (.slice z1.a z1.xs.length z1.c) ∧ W7.cell? ⟨w6.heap.size, 2, none⟩ = some (.int .i64 z1.e) ∧ W7.cell? ⟨w7.heap.size, 0, none⟩ = some (.bool z2.neg) ∧ W7.cell? ⟨w7.heap.size, 1, none⟩ = some (.slice z2.a z2.xs.length z2.c) ∧ W7.cell? ⟨w7.heap.size, 2, none⟩ = some (.int .i64 z2.e) := ⟨hY2.1, hY2.2.1, hY2.2.2, hZ⟩
            clear hY hY2 hZ
            go_region_held3 (fun w' => w'.cell? ⟨w6.heap.size, 0, none⟩ = some (.bool z1.neg) ∧ w'.cell? ⟨w6.heap.size, 1, none⟩ = some (.slice z1.a z1.xs.length z1.c) ∧ w'.cell? ⟨w6.heap.size, 2, none⟩ = some (.int .i64 z1.e) ∧ w'.cell? ⟨w7.heap.size, 0, none⟩ = some (.bool z2.neg) ∧ w'.cell? ⟨w7.heap.size, 1, none⟩ = some (.slice z2.a z2.xs.length z2.c) ∧ w'.cell? ⟨w7.heap.size, 2, none⟩ = some (.int .i64 z2.e)) (first | with_reducible assumption | with_reducible exact keepRR ((Kp.refl W7).alloc _).drew hSS7 | with_reducible exact keepRR (((Kp.refl W7).alloc _).alloc _).drew hSS7 | with_reducible exact keepRR ((Kp.refl _).alloc _) (by assumption) | with_reducible exact keepFar far8 nB nC (by assumption) | with_reducible exact keepFar far9 nB nC (by assumption))
              (first
                | ((refine step_two_lo ?_ (.tmp 83) (.tmp 85) ?_ w5 u9 u10 L M wr.heap.size ?_ (htD.kp ((Kp.refl _).alloc _).drew) hv9 z1 (rz1D.kp ((Kp.refl _).alloc _).drew) ?_ hL8 ?_)
                   · rfl
                   · rfl
                   · rfl
                   · refine ⟨_, _, rfl, ?_⟩; simp
                   intro a8 c8 w8 two8 far8 rd8)
                | ((refine step_two_lo ?_ (.tmp 83) (.tmp 85) ?_ w5 u9 u10 L M wr.heap.size ?_ (htD.kp (((Kp.refl _).alloc _).alloc _).drew) hv9 z1 (rz1D.kp (((Kp.refl _).alloc _).alloc _).drew) ?_ hL8 ?_)
                   · rfl
                   · rfl
                   · rfl
                   · refine ⟨_, _, rfl, ?_⟩; simp
                   intro a8 c8 w8 two8 far8 rd8)
                | ((refine step_two_lo ?_ (.tmp 83) (.tmp 85) ?_ w5 u9 _ L _ wr.heap.size ?_ two8 hv9 z1 (rd8 _ (rz1D.kp ((Kp.refl _).alloc _).drew)) ?_ hL8 ?_)
                   · rfl
                   · rfl
                   · rfl
                   · refine ⟨_, _, rfl, far8 _ _ (by simp; omega) (by simp), far8 _ _ (by simp; omega) (by simp), far8 _ _ (by simp; omega) (by simp)⟩
                   intro a9 c9 w9 two9 far9 rd9)
                | ((refine step_two_lo ?_ (.tmp 83) (.tmp 85) ?_ w5 u9 _ L _ wr.heap.size ?_ (two8.kp ((Kp.refl _).alloc _)) hv9 z1 ((rd8 _ (rz1D.kp ((Kp.refl _).alloc _).drew)).kp ((Kp.refl _).alloc _)) ?_ hL8 ?_)
                   · rfl
                   · rfl
                   · rfl
                   · refine ⟨_, _, rfl, ?_⟩; simp
                   intro a9 c9 w9 two9 far9 rd9)
                | ((refine step_two_lo ?_ (.tmp 83) (.tmp 85) ?_ w5 u9 _ L _ wr.heap.size ?_ two8 hv9 z1 (rd8 _ (rz1D.kp (((Kp.refl _).alloc _).alloc _).drew)) ?_ hL8 ?_)
                   · rfl
                   · rfl
                   · rfl
                   · refine ⟨_, _, rfl, far8 _ _ (by simp; omega) (by simp), far8 _ _ (by simp; omega) (by simp), far8 _ _ (by simp; omega) (by simp)⟩
                   intro a9 c9 w9 two9 far9 rd9)
                | ((refine step_two_lo ?_ (.tmp 83) (.tmp 85) ?_ w5 u9 _ L _ wr.heap.size ?_ (two8.kp ((Kp.refl _).alloc _)) hv9 z1 ((rd8 _ (rz1D.kp (((Kp.refl _).alloc _).alloc _).drew)).kp ((Kp.refl _).alloc _)) ?_ hL8 ?_)
                   · rfl
                   · rfl
                   · rfl
                   · refine ⟨_, _, rfl, ?_⟩; simp
                   intro a9 c9 w9 two9 far9 rd9)
                | ((refine step_two_hi ?_ (.tmp 87) (.tmp 89) ?_ w5 u9 u10 L M wr.heap.size ?_ (htD.kp ((Kp.refl _).alloc _).drew) hu9 z2 (rz2D.kp ((Kp.refl _).alloc _).drew) ?_ hM8 ?_)
                   · rfl
                   · rfl
                   · rfl
                   · refine ⟨_, _, rfl, ?_⟩; simp
                   intro a8 c8 w8 two8 far8 rd8)
                | ((refine step_two_hi ?_ (.tmp 87) (.tmp 89) ?_ w5 u9 u10 L M wr.heap.size ?_ (htD.kp (((Kp.refl _).alloc _).alloc _).drew) hu9 z2 (rz2D.kp (((Kp.refl _).alloc _).alloc _).drew) ?_ hM8 ?_)
                   · rfl
                   · rfl
                   · rfl
                   · refine ⟨_, _, rfl, ?_⟩; simp
                   intro a8 c8 w8 two8 far8 rd8)
                | ((refine step_two_hi ?_ (.tmp 87) (.tmp 89) ?_ w5 _ u10 _ M wr.heap.size ?_ two8 hu9 z2 (rd8 _ (rz2D.kp ((Kp.refl _).alloc _).drew)) ?_ hM8 ?_)
                   · rfl
                   · rfl
                   · rfl
                   · refine ⟨_, _, rfl, far8 _ _ (by simp; omega) (by simp), far8 _ _ (by simp; omega) (by simp), far8 _ _ (by simp; omega) (by simp)⟩
                   intro a9 c9 w9 two9 far9 rd9)
                | ((refine step_two_hi ?_ (.tmp 87) (.tmp 89) ?_ w5 _ u10 _ M wr.heap.size ?_ (two8.kp ((Kp.refl _).alloc _)) hu9 z2 ((rd8 _ (rz2D.kp ((Kp.refl _).alloc _).drew)).kp ((Kp.refl _).alloc _)) ?_ hM8 ?_)
                   · rfl
                   · rfl
                   · rfl
                   · refine ⟨_, _, rfl, ?_⟩; simp
                   intro a9 c9 w9 two9 far9 rd9)
                | ((refine step_two_hi ?_ (.tmp 87) (.tmp 89) ?_ w5 _ u10 _ M wr.heap.size ?_ two8 hu9 z2 (rd8 _ (rz2D.kp (((Kp.refl _).alloc _).alloc _).drew)) ?_ hM8 ?_)
                   · rfl
                   · rfl
                   · rfl
                   · refine ⟨_, _, rfl, far8 _ _ (by simp; omega) (by simp), far8 _ _ (by simp; omega) (by simp), far8 _ _ (by simp; omega) (by simp)⟩
                   intro a9 c9 w9 two9 far9 rd9)
                | ((refine step_two_hi ?_ (.tmp 87) (.tmp 89) ?_ w5 _ u10 _ M wr.heap.size ?_ (two8.kp ((Kp.refl _).alloc _)) hu9 z2 ((rd8 _ (rz2D.kp (((Kp.refl _).alloc _).alloc _).drew)).kp ((Kp.refl _).alloc _)) ?_ hM8 ?_)
                   · rfl
                   · rfl
                   · rfl
                   · refine ⟨_, _, rfl, ?_⟩; simp
                   intro a9 c9 w9 two9 far9 rd9))
            all_goals go_wp2_with fail
            all_goals go_roundw
            all_goals first
              | (case rel => exact ⟨k + 1, L ++ [z1], M ++ [z2], by omega, by go_num, two9, HL.out.snoc Hgz.out (vz1 (rdok_dy Hzo.out.lo)) (congrArg Dy.iv hz1), HM.out.snoc Hgz.out (vz2 (rdok_dy Hzo.out.hi)) (congrArg Dy.iv hz2)⟩)
              | (case measure => simp [intOf]; omega)
          · have hkl : k = xs.length := by have := Hgr.out.1; omega
            subst hkl
            have HQ := Lib.hid (ends_eq Hox.out HL.out HM.out htwo.1.2.2.2 htwo.2.1.2.2.2)
            have hLl : L.length ≤ 1100000 := by have := HL.out.1; omega
            have hMl : M.length ≤ 1100000 := by have := HM.out.1; omega
            obtain ⟨al, cl, rfl, _, _, hrl⟩ := htwo.1.value
            obtain ⟨am, cm, rfl, _, _, hrm⟩ := htwo.2.1.value
            have h5 := hk5.trans hk6
            have hx6 := hx5.kp hk6
            have g0 := hk6.cell t0
            have g1 := hk6.cell t1
            have g2 := hk6.cell t2
            clear htwo t0 t1 t2 hk5 hk6 hx5 HL HM hk9
            go_wp2_with fail

            refine (BPoints_any al L cl _ hrl hLl).mono ?_
            rintro e w6 ⟨ap, cp, rfl, hrp, _, _, k6⟩
            go_wp2_with fail
            refine (BPoints_any am M cm _ (hrm.kp k6) hMl).mono ?_
            rintro e w7 ⟨aq, cq, rfl, hrq, _, _, k7⟩
            go_wp2_with fail
            refine (BHull_any ap aq (ptsB L) (ptsB M) cp cq _ (hrp.kp k7) (lenPts hLl) hrq (lenPts hMl)).mono ?_
            rintro e w8 ⟨ah, ch, rfl, hrh, _, _, k8⟩
            have k68 := (k6.trans k7).trans k8
            go_wp2_with fail
            refine (BEqual_any ah ax (hullB (ptsB L) (ptsB M)) xs ch cx _ hrh (lenHull (lenPts hLl)) (hx6.kp k68) hxl).mono ?_
            rw [HQ.out]
            rintro e w9 ⟨rfl, k9⟩
            have k69 := k68.trans k9
            have hx9 := hx6.kp k69
            have h9 := h5.trans k69
            have u0 := k69.cell g0
            have u1 := k69.cell g1
            have u2 := k69.cell g2
            clear g0 g1 g2 k6 k7 k8 k9 k68 k69 hx6 h5 hrl hrm hrp hrq hrh HQ
            go_wp2_with fail
            refine (BGrow_any b ys cb eps _ (hy.kp h9) hyl (he.kp h9) (hT.kp h9)).mono ?_
            rintro e w10 (⟨f, hf, rfl, k1⟩ | ⟨aq, cq, qs, rfl, hq, hqc, hqm, k1, vy, _, _, okq, hgq⟩)
            · have hff : (f == 0) = false := by simpa using hf
              have hff2 : (f != 0) = true := by simpa using hf
              clear u0 u1 u2
              go_wp2_with fail
              go_ret
              exact ⟨rfl, h9.trans k1⟩
            · have h10 := h9.trans k1
              have hx10 := hx9.kp k1
              have oy := OkB.of hy vy
              have oq : OkB w10 qs := ⟨okq, by rw [← hgq.1]; exact oy.2.1, by rw [← hgq.1]; exact oy.2.2⟩
              have hql : qs.length ≤ 1100000 := by have := oq.2.2; omega
              have J1 := Lib.hid (grw_ins2 Hoz.out oy Hox.out oq Hgr.out hgq)
              have J2 := Lib.hid (grw_int2 Hoz.out oy Hox.out oq Hgr.out hgq)
              clear u0 u1 u2 k1 hx9 h9 okq oy oq hgq vy
              go_wp2_with fail
              refine (BInside_any _ b zs ys ca cb _ (hz.kp h10) hzl (hy.kp h10) hyl).mono ?_
              rintro e w11 ⟨rfl, k11⟩
              have h11 := h10.trans k11
              have hx11 := hx10.kp k11
              have hq11 := hq.kp k11
              clear k11 hx10 hq h10
              go_wp2_with fail
              refine (BInside_any ax aq xs qs cx cq _ hx11 hxl hq11 hql).mono ?_
              rw [J1.out]
              rintro e w12 ⟨rfl, k12⟩
              have h12 := h11.trans k12
              have hx12 := hx11.kp k12
              have hq12 := hq11.kp k12
              clear k12 hx11 hq11 h11
              generalize insB zs ys = B1
              have hB1 : (B1 == B1) = true := by cases B1 <;> rfl
              go_wp2_with fail
              refine (BInterior_any _ b zs ys ca cb _ (hz.kp h12) hzl (hy.kp h12) hyl).mono ?_
              rintro e w13 ⟨rfl, k13⟩
              have h13 := h12.trans k13
              have hx13 := hx12.kp k13
              have hq13 := hq12.kp k13
              clear k13 hx12 hq12 h12
              go_wp2_with fail
              refine (BInterior_any ax aq xs qs cx cq _ hx13 hxl hq13 hql).mono ?_
              rw [J2.out]
              rintro e w14 ⟨rfl, k14⟩
              have h14 := h13.trans k14
              clear k14 hx13 hq13 h13
              generalize intB zs ys = B2
              have hB2 : (B2 == B2) = true := by cases B2 <;> rfl
              go_wp2_with fail
              go_ret
              exact ⟨by simp, h14⟩
end Go.Proofs.YtkohlmlmoapedaaGreatDoor
