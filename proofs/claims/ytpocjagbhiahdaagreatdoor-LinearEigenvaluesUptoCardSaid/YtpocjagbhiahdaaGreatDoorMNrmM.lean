/-
  Walks: matrix.Norm.
-/
import Derived.Deep.LoopGhost
import Derived.Test.YtpocjagbhiahdaaGreatDoorMIvM
import Derived.Test.YtpocjagbhiahdaaGreatDoorMIvMl
import Derived.Test.YtpocjagbhiahdaaGreatDoorMR2I
import Derived.Test.YtpocjagbhiahdaaGreatDoorMOwnX
import Derived.Test.YtpocjagbhiahdaaGreatDoorMSumH
import Derived.Test.YtpocjagbhiahdaaGreatDoorMNear
namespace Go.Proofs.YtpocjagbhiahdaaGreatDoor
open Go.RowKit
set_option maxRecDepth 100000 in
set_option maxHeartbeats 8000000 in
theorem mnorm_any (a : Option Addr) (m : List (List RI)) (c : Nat) (p : Int) (w : World) (hm : RowM w a m) (hl : m.length ≤ 1100000) (hT : Tab w) :
    Calls Tryz.prog 66 #[.slice a m.length c, .int .i64 p] w (NumB w ((nrmO m p).getD .zero) (nrmO m p).isSome) := by
  have HM := Lib.hid hm
  have HT := Lib.hid hT
  obtain ⟨D, hD⟩ : ∃ D, D = nrmO m p := ⟨_, rfl⟩
  have HD := Lib.hid hD
  rw [← hD]
  clear hm hT hD
  go_enter Tryz.func66, Tryz.ntmps66
  go_wp2_with fail
  generalize hW : w.alloc _ = W at *
  have hk : Kp w W := hW ▸ (Kp.refl w).alloc _
  have hB : BoxD W w.heap.size rdZero := by rw [← hW]; exact Box3.new _ _ _ _ _
  clear hW
  go_fit (mvalid_any a m c _ (HM.out.kp hk) hl)
  rintro e w1 ⟨rfl, k1⟩
  have hk1 := hk.trans k1
  have hB1 := hB.kp k1
  clear hk hB k1
  cases hvm : vlM m with
  | false =>
    have HE := Lib.hid (show D = none by rw [HD.out]; unfold nrmO; rw [hvm]; rfl)
    clear hvm
    obtain ⟨q0, q1, q2, f0, f1, f2⟩ := id hB1
    go_wp2_with fail
    generalize hW9 : (((w1.setCell _ _).setCell _ _).setCell _ _) = W9
    obtain ⟨⟨s0, s1, s2, _⟩, hU⟩ := BoxD.store hB1 rdZero hW9
    clear hW9 q0 q1 q2 f0 f1 f2
    refine bodyPost_ret (v := .tuple #[.agg #[.bool rdZero.neg, .slice rdZero.a rdZero.xs.length rdZero.c, .int .i64 rdZero.e], .bool false]) (by simp [results, Tryz.results66, go_sem, s0, s1, s2]) rfl ?_
    rw [HE.out]
    exact ⟨rdZero, rfl, rdZero_rd _, rfl, rdZero_vl, hU.2.2.1 _ hk1 (by omega)⟩
  | true =>
  have HVM := Lib.hid hvm
  clear hvm
  go_wp2_with fail
  go_fit (mprecise_any p _)
  rintro e w3 ⟨rfl, rfl⟩
  cases hp : preB p with
  | false =>
    have HE := Lib.hid (show D = none by rw [HD.out]; unfold nrmO; rw [HVM.out, hp]; rfl)
    clear hp
    obtain ⟨q0, q1, q2, f0, f1, f2⟩ := id hB1
    go_wp2_with fail
    generalize hW9 : (((w1.setCell _ _).setCell _ _).setCell _ _) = W9
    obtain ⟨⟨s0, s1, s2, _⟩, hU⟩ := BoxD.store hB1 rdZero hW9
    clear hW9 q0 q1 q2 f0 f1 f2
    refine bodyPost_ret (v := .tuple #[.agg #[.bool rdZero.neg, .slice rdZero.a rdZero.xs.length rdZero.c, .int .i64 rdZero.e], .bool false]) (by simp [results, Tryz.results66, go_sem, s0, s1, s2]) rfl ?_
    rw [HE.out]
    exact ⟨rdZero, rfl, rdZero_rd _, rfl, rdZero_vl, hU.2.2.1 _ hk1 (by omega)⟩
  | true =>
  have HP := Lib.hid hp
  obtain ⟨q, hq⟩ : ∃ q : Nat, q = p.toNat := ⟨_, rfl⟩
  have hpq : p = (q : Int) := by have := preB_iff.1 hp; omega
  have hq0 : 8 ≤ q := by have := preB_iff.1 hp; omega
  have hq1 : q ≤ 512 := by have := preB_iff.1 hp; omega
  have HDm := Lib.hid (show nrmN q m .zero = D by rw [HD.out]; unfold nrmO; rw [HVM.out, hp, hq]; rfl)
  clear hp
  rw [hpq]
  clear hpq hq
  have hml := (vlM_iff.1 HVM.out).1
  have hm8 : m.length ≤ 8 := hml.2
  clear hml
  go_upto_region 4 with fail
  generalize hW2 : w1.alloc _ = W2 at *
  have hk2 : Kp w1 W2 := hW2 ▸ (Kp.refl w1).alloc _
  have hY : BoxD W2 w1.heap.size rdZero := by rw [← hW2]; exact Box3.new _ _ _ _ _
  clear hW2
  have HK1 := Lib.hid hk1
  have HB1 := Lib.hid hB1
  clear hk1 hB1
  go_wp2_with fail
  go_loopg [27] m.length (fun n v wr => ∃ (i : Nat) (y : RD), i + n = m.length ∧ v = .int .i64 (i : Int) ∧ Kp w1 wr ∧ BoxD wr w1.heap.size y ∧ y.ok wr ∧ nrmN q (m.drop i) y.dy = D)
  case atStart => exact ⟨0, rdZero, by omega, rfl, hk2, hY, ⟨rdZero_rd _, rdZero_vl⟩, by rw [List.drop_zero]; exact HDm.out⟩
  case round =>
  obtain ⟨i, y, hin, rfl, hkr, hYr, hyo, hN⟩ := hrel
  have HN := Lib.hid hN
  have HYo := Lib.hid hyo
  clear hN hyo hY hk2
  by_cases hlt : i < m.length
  rotate_left
  · have HC3 := Lib.hid (show D = some y.dy by
      have hd : m.drop i = [] := List.drop_eq_nil_of_le (by omega)
      have := HN.out
      rw [hd] at this
      exact this.symm)
    have hB9 := HB1.out.kp hkr
    have hkz := HK1.out.trans hkr
    obtain ⟨q0, q1, q2, f0, f1, f2⟩ := id hYr
    obtain ⟨r0, r1, r2, g0, g1, g2⟩ := id hB9
    go_wp2_with fail
    generalize hW9 : (((wr.setCell _ _).setCell _ _).setCell _ _) = W9
    obtain ⟨⟨s0, s1, s2, _⟩, hU⟩ := BoxD.store hB9 y hW9
    clear hW9 q0 q1 q2 f0 f1 f2 r0 r1 r2 g0 g1 g2
    refine bodyPost_ret (v := .tuple #[.agg #[.bool y.neg, .slice y.a y.xs.length y.c, .int .i64 y.e], .bool true]) (by simp [results, Tryz.results66, go_sem, s0, s1, s2]) rfl ?_
    rw [HC3.out]
    exact ⟨y, rfl, hU.rdD HYo.out.1, rfl, HYo.out.2, hU.2.2.1 _ hkz (by omega)⟩
  obtain ⟨r, hr⟩ : ∃ r, m[i]? = some r := ⟨_, List.getElem?_eq_getElem hlt⟩
  obtain ⟨b2, o2, ra, rc, rfl, hrc, hrow, hrl⟩ := HM.out i r hr
  have hrc1 := (HK1.out.trans hkr).cell hrc
  have HRW := Lib.hid (And.intro hrow (vlM_row HVM.out hr))
  have HR := Lib.hid (show contN q (m.drop (i + 1)) y.dy (sumN q (r.drop 0) .zero) = D from (nrmN_row hr).symm.trans HN.out)
  have hi1 : (0 : Int) ≤ (i : Int) := by omega
  have hi2 : (i : Int) < (m.length : Int) := by omega
  have hr8 : r.length ≤ 8 := by rw [(vlM_row HVM.out hr).1]; exact (vlM_iff.1 HVM.out).2.1.2
  have Hin := Lib.hid (And.intro hin hlt)
  clear hr hrc hrow hrl hin
  go_upto_region 8 with fail
  clear hrc1
  obtain ⟨V, hV⟩ : ∃ x : World, x = wr := ⟨_, rfl⟩
  subst hV
  generalize hW3 : V.alloc _ = W3 at *
  have hk3 : Kp V W3 := hW3 ▸ (Kp.refl V).alloc _
  have hS3 : BoxD W3 V.heap.size rdZero := by rw [← hW3]; exact Box3.new _ _ _ _ _
  clear hW3
  obtain ⟨gk1, hgk1⟩ : ∃ x : Nat, x = gk := ⟨_, rfl⟩
  subst hgk1
  have HKR := Lib.hid hkr
  have HYr := Lib.hid hYr
  clear hkr hYr
  go_wp2_with fail
  go_loopg [33] r.length (fun n v wr => ∃ (k : Nat) (s : RD), k + n = r.length ∧ v = .int .i64 (k : Int) ∧ Kp V wr ∧ BoxD wr V.heap.size s ∧ s.ok wr ∧ contN q (m.drop (i + 1)) y.dy (sumN q (r.drop k) s.dy) = D)
  case atStart => exact ⟨0, rdZero, by omega, rfl, hk3, hS3, ⟨rdZero_rd _, rdZero_vl⟩, HR.out⟩
  case round =>
  obtain ⟨k, s, hkn, rfl, hks, hS, hso, hC⟩ := hrel
  have HC := Lib.hid hC
  have HSo := Lib.hid hso
  clear hC hso hS3 hk3
  by_cases hlt2 : k < r.length
  rotate_left
  · have HC2 := Lib.hid (show nrmN q (m.drop (i + 1)) (if y.dy.iv < s.dy.iv then s.dy else y.dy) = D by
      have hd : r.drop k = [] := List.drop_eq_nil_of_le (by omega)
      have := HC.out
      rw [hd] at this
      exact this)
    have hY2 := HYr.out.kp hks
    have hyo := HYo.out.kp hks
    have hKK := HKR.out.trans hks
    obtain ⟨q0, q1, q2, f0, f1, f2⟩ := id hS
    obtain ⟨r0, r1, r2, g0, g1, g2⟩ := id hY2
    go_wp2_with fail
    go_fit (Cmp_raw s y _ HSo.out.1 hyo.1 HSo.out.2 hyo.2)
    rintro e w7 ⟨rfl, k7⟩
    have hS7 := hS.kp k7
    have hY7 := hY2.kp k7
    have Hyo := Lib.hid (hyo.kp k7)
    have HSo7 := Lib.hid (HSo.out.kp k7)
    have hK7 := hKK.trans k7
    clear q0 q1 q2 f0 f1 f2 r0 r1 r2 g0 g1 g2 hS hY2 hyo hks hKK k7
    obtain ⟨q0, q1, q2, f0, f1, f2⟩ := id hS7
    obtain ⟨r0, r1, r2, g0, g1, g2⟩ := id hY7
    by_cases hc : 0 < cmpZ s.iv y.iv
    rotate_left
    · have hd := decide_eq_false hc
      have HC3 := Lib.hid (show nrmN q (m.drop (i + 1)) y.dy = D by
        have h1 : ¬ y.dy.iv < s.dy.iv := fun h => hc (cmpZ_gt.2 h)
        have := HC2.out
        rwa [if_neg h1] at this)
      clear hc
      go_wp2_with fail
      go_roundg (gk1 - 1)
      case rel => exact ⟨i + 1, y, by have := Hin.out; omega, by go_num, hK7, hY7, Hyo.out, HC3.out⟩
      case measure => have := Hin.out; omega
    have hd := decide_eq_true hc
    have HC3 := Lib.hid (show nrmN q (m.drop (i + 1)) s.dy = D by
      have h1 : y.dy.iv < s.dy.iv := cmpZ_gt.1 hc
      have := HC2.out
      rwa [if_pos h1] at this)
    clear hc
    go_wp2_with fail
    go_roundg (gk1 - 1)
    case measure => have := Hin.out; omega
    case rel =>
    generalize hW9 : (((w7.setCell _ _).setCell _ _).setCell _ _) = W9
    obtain ⟨hN, hU⟩ := BoxD.store hY7 s hW9
    exact ⟨i + 1, s, by have := Hin.out; omega, by go_num, hU.2.2.1 _ hK7 (Nat.le_refl _), hN, hU.okD HSo7.out, HC3.out⟩
  obtain ⟨x, hx⟩ : ∃ x, r[k]? = some x := ⟨_, List.getElem?_eq_getElem hlt2⟩
  obtain ⟨b3, o3, e3, hrd, s0, s1, s2, s3, s4, s5, s6⟩ := (HRW.out.1.kp ((HK1.out.trans HKR.out).trans hks)) k x hx
  subst e3
  have kA := (Kp.refl wr).alloc (.cells #[.bool x.lo.neg, .slice x.lo.a x.lo.xs.length x.lo.c, .int .i64 x.lo.e, .bool x.hi.neg, .slice x.hi.a x.hi.xs.length x.hi.c, .int .i64 x.hi.e, .bool x.all] 44)
  have Hx := Lib.hid hx
  have HX := Lib.hid (And.intro (hrd.kp kA) (HRW.out.2.2 x (List.mem_of_getElem? hx)))
  have hj1 : (0 : Int) ≤ (k : Int) := by omega
  have hj2 : (k : Int) < (r.length : Int) := by omega
  have Hkn := Lib.hid (And.intro hkn hlt2)
  have hSA := hS.kp kA
  have hKA := hks.trans kA
  clear hx hrd hkn hS hks
  go_upto_region 11 with fail
  clear s0 s1 s2 s3 s4 s5 s6
  generalize hW4 : wr.alloc _ = W4 at *
  obtain ⟨s0, s1, s2, s3, s4, s5, s6⟩ : W4.cell? ⟨wr.heap.size, 0, none⟩ = some (.bool x.lo.neg) ∧ W4.cell? ⟨wr.heap.size, 1, none⟩ = some (.slice x.lo.a x.lo.xs.length x.lo.c) ∧ W4.cell? ⟨wr.heap.size, 2, none⟩ = some (.int .i64 x.lo.e) ∧ W4.cell? ⟨wr.heap.size, 3, none⟩ = some (.bool x.hi.neg) ∧ W4.cell? ⟨wr.heap.size, 4, none⟩ = some (.slice x.hi.a x.hi.xs.length x.hi.c) ∧ W4.cell? ⟨wr.heap.size, 5, none⟩ = some (.int .i64 x.hi.e) ∧ W4.cell? ⟨wr.heap.size, 6, none⟩ = some (.bool x.all) := by rw [← hW4]; simp
  have kA4 := Lib.hid kA
  clear hW4 kA
  go_wp2_with fail
  go_fit (Mag_any x _ HX.out.1 HX.out.2)
  rintro e w5 ⟨z1, rfl, rz, dz, vz, k5⟩
  have kB := (Kp.refl w5).alloc (.cells #[.bool z1.neg, .slice z1.a z1.xs.length z1.c, .int .i64 z1.e] 42)
  have O1 := Lib.hid (show z1.ok (w5.alloc (.cells #[.bool z1.neg, .slice z1.a z1.xs.length z1.c, .int .i64 z1.e] 42)) from ⟨rz.kp kB, vz⟩)
  have D1 := Lib.hid dz
  have hSB := hSA.kp (k5.trans kB)
  have hKB := hKA.trans (k5.trans kB)
  clear rz dz vz hSA hKA s0 s1 s2 s3 s4 s5 s6
  have HWA := Lib.hid (kA4.out.trans (k5.trans kB))
  go_upto_region 12 with fail
  have SoB := Lib.hid (show s.ok (w5.alloc (.cells #[.bool z1.neg, .slice z1.a z1.xs.length z1.c, .int .i64 z1.e] 42)) from HSo.out.kp HWA.out)
  generalize hW5 : w5.alloc _ = W5 at *
  obtain ⟨m0, m1, m2⟩ : W5.cell? ⟨w5.heap.size, 0, none⟩ = some (.bool z1.neg) ∧ W5.cell? ⟨w5.heap.size, 1, none⟩ = some (.slice z1.a z1.xs.length z1.c) ∧ W5.cell? ⟨w5.heap.size, 2, none⟩ = some (.int .i64 z1.e) := by rw [← hW5]; simp
  clear hW5 kB k5
  cases hxa : x.all with
  | true =>
    have HE := Lib.hid (show D = none from (HC.out.symm.trans (by rw [sumN_all Hx.out hxa]; rfl)))
    have hBz := HB1.out.kp (HKR.out.trans hKB)
    have hkz := HK1.out.trans (HKR.out.trans hKB)
    clear hSB m0 m1 m2 hKB hxa
    obtain ⟨q0, q1, q2, f0, f1, f2⟩ := id hBz
    go_wp2_with fail
    generalize hW9 : (((W5.setCell _ _).setCell _ _).setCell _ _) = W9
    obtain ⟨⟨s0, s1, s2, _⟩, hU⟩ := BoxD.store hBz rdZero hW9
    clear hW9 q0 q1 q2 f0 f1 f2
    refine bodyPost_ret (v := .tuple #[.agg #[.bool rdZero.neg, .slice rdZero.a rdZero.xs.length rdZero.c, .int .i64 rdZero.e], .bool false]) (by simp [results, Tryz.results66, go_sem, s0, s1, s2]) rfl ?_
    rw [HE.out]
    exact ⟨rdZero, rfl, rdZero_rd _, rfl, rdZero_vl, hU.2.2.1 _ hkz (by omega)⟩
  | false =>
  have Hxa := Lib.hid hxa
  clear hxa
  obtain ⟨q0, q1, q2, f0, f1, f2⟩ := id hSB
  go_wp2_with fail
  go_fit (addUp_ok s z1 hq0 hq1 _ SoB.out O1.out (HT.out.kp ((HK1.out.trans HKR.out).trans hKB)))
  rintro e w6 ⟨z2, rfl, rz, dz, vz, k6⟩
  have kC := (Kp.refl w6).alloc (.cells #[.bool z2.neg, .slice z2.a z2.xs.length z2.c, .int .i64 z2.e] 42)
  have O2 := Lib.hid (show z2.ok (w6.alloc (.cells #[.bool z2.neg, .slice z2.a z2.xs.length z2.c, .int .i64 z2.e] 42)) from ⟨rz.kp kC, vz (adP_ok _ _ hq0 hq1 true)⟩)
  have D2 := Lib.hid dz
  have hSC := hSB.kp (k6.trans kC)
  have hKC := hKB.trans (k6.trans kC)
  clear rz dz vz hSB hKB q0 q1 q2 f0 f1 f2 m0 m1 m2
  go_upto_region 15 with fail
  generalize hW6 : w6.alloc _ = W6 at *
  obtain ⟨m0, m1, m2⟩ : W6.cell? ⟨w6.heap.size, 0, none⟩ = some (.bool z2.neg) ∧ W6.cell? ⟨w6.heap.size, 1, none⟩ = some (.slice z2.a z2.xs.length z2.c) ∧ W6.cell? ⟨w6.heap.size, 2, none⟩ = some (.int .i64 z2.e) := by rw [← hW6]; simp
  clear hW6 kC k6
  by_cases he : (adP s.dy z1.dy q true).2 = 0
  · rw [he]
    have HC2 := Lib.hid (show contN q (m.drop (i + 1)) y.dy (sumN q (r.drop (k + 1)) z2.dy) = D by
      rw [D2.out, D1.out, ← sumN_next Hx.out Hxa.out (by rw [← D1.out]; exact he)]; exact HC.out)
    clear he
    obtain ⟨q0, q1, q2, f0, f1, f2⟩ := id hSC
    go_wp2_with fail
    go_roundg (gk - 1)
    case measure => have := Hkn.out; omega
    case rel =>
    generalize hW9 : (((W6.setCell _ _).setCell _ _).setCell _ _) = W9
    obtain ⟨hN, hU⟩ := BoxD.store hSC z2 hW9
    exact ⟨k + 1, z2, by have := Hkn.out; omega, by go_num, hU.2.2.1 _ hKC (Nat.le_refl _), hN, hU.okD O2.out, HC2.out⟩
  have g1 : ((adP s.dy z1.dy q true).2 != 0) = true := by rw [bne, beq_eq_false_iff_ne.2 he]; rfl
  have g3 : ((adP s.dy z1.dy q true).2 == 0) = false := beq_eq_false_iff_ne.2 he
  have HE := Lib.hid (show D = none from (HC.out.symm.trans (by rw [sumN_err Hx.out Hxa.out (by rw [← D1.out]; exact he)]; rfl)))
  have hBz := HB1.out.kp (HKR.out.trans hKC)
  have hkz := HK1.out.trans (HKR.out.trans hKC)
  clear hSC m0 m1 m2 hKC he
  obtain ⟨q0, q1, q2, f0, f1, f2⟩ := id hBz
  go_wp2_with fail
  generalize hW9 : (((W6.setCell _ _).setCell _ _).setCell _ _) = W9
  obtain ⟨⟨s0, s1, s2, _⟩, hU⟩ := BoxD.store hBz rdZero hW9
  clear hW9 q0 q1 q2 f0 f1 f2
  refine bodyPost_ret (v := .tuple #[.agg #[.bool rdZero.neg, .slice rdZero.a rdZero.xs.length rdZero.c, .int .i64 rdZero.e], .bool false]) (by simp [results, Tryz.results66, go_sem, s0, s1, s2]) rfl ?_
  rw [HE.out]
  exact ⟨rdZero, rfl, rdZero_rd _, rfl, rdZero_vl, hU.2.2.1 _ hkz (by omega)⟩
def HasD (w0 w : World) (g : Nat) (z : RD) (d : Dy) : Prop := (w.cell? ⟨g, 0, none⟩ = some (.bool z.neg) ∧ w.cell? ⟨g, 1, none⟩ = some (.slice z.a z.xs.length z.c) ∧ w.cell? ⟨g, 2, none⟩ = some (.int .i64 z.e)) ∧ z.ok w ∧ z.dy = d ∧ Kp w0 w ∧ w0.heap.size ≤ g
theorem HasD.kp {w0 w w' : World} {g : Nat} {z : RD} {d : Dy} (h : HasD w0 w g z d) (k : Kp w w') : HasD w0 w' g z d :=
  ⟨keep3 k h.1, h.2.1.kp k, h.2.2.1, h.2.2.2.1.trans k, h.2.2.2.2⟩
theorem hasD_alloc {w0 w : World} {z : RD} {d : Dy} (hz : z.ok w) (hd : z.dy = d) (k : Kp w0 w) (t : TypeId) : HasD w0 (w.alloc (.cells #[.bool z.neg, .slice z.a z.xs.length z.c, .int .i64 z.e] t)) w.heap.size z d :=
  ⟨by simp, hz.kp ((Kp.refl w).alloc _), hd, k.alloc _, k.size⟩
theorem hasD_store {w0 w : World} {g : Nat} {y0 y1 y2 : Value} (hB : Box3 w g y0 y1 y2) (n0 : ∀ n : Int, y0 ≠ .int .u32 n) (n1 : ∀ n : Int, y1 ≠ .int .u32 n) (n2 : ∀ n : Int, y2 ≠ .int .u32 n)
    {z : RD} {d : Dy} (hz : z.ok w) (hd : z.dy = d) (k : Kp w0 w) (hg : w0.heap.size ≤ g) :
    HasD w0 (((w.setCell ⟨g, 0, none⟩ (.bool z.neg)).setCell ⟨g, 1, none⟩ (.slice z.a z.xs.length z.c)).setCell ⟨g, 2, none⟩ (.int .i64 z.e)) g z d := by
  obtain ⟨s0, s1, s2, _, s4, s5, _, _⟩ := stored hB.1 hB.2.1 hB.2.2.1 n0 n1 n2 (.bool z.neg) (.slice z.a z.xs.length z.c) (.int .i64 z.e)
  exact ⟨⟨s0, s1, s2⟩, ⟨⟨s4 _ _ hz.1.1, hz.1.2⟩, hz.2⟩, hd, s5 _ k hg, hg⟩
theorem set33x {w : World} {g b o b2 o2 : Nat} (n : b ≠ g) (n2 : b2 ≠ g) {v0 v1 v2 v3 v4 v5 x0 x1 x2 : Value}
    (h : (w.cell? ⟨b, o, none⟩ = some v0 ∧ w.cell? ⟨b, o + 1, none⟩ = some v1 ∧ w.cell? ⟨b, o + 2, none⟩ = some v2) ∧ w.cell? ⟨b2, o2, none⟩ = some v3 ∧ w.cell? ⟨b2, o2 + 1, none⟩ = some v4 ∧ w.cell? ⟨b2, o2 + 2, none⟩ = some v5) :
    (fun W : World => (W.cell? ⟨b, o, none⟩ = some v0 ∧ W.cell? ⟨b, o + 1, none⟩ = some v1 ∧ W.cell? ⟨b, o + 2, none⟩ = some v2) ∧ W.cell? ⟨b2, o2, none⟩ = some v3 ∧ W.cell? ⟨b2, o2 + 1, none⟩ = some v4 ∧ W.cell? ⟨b2, o2 + 2, none⟩ = some v5)
      (((w.setCell ⟨g, 0, none⟩ x0).setCell ⟨g, 1, none⟩ x1).setCell ⟨g, 2, none⟩ x2) := by
  have ne (i j : Nat) : (⟨g, i, none⟩ : Addr) ≠ ⟨b, j, none⟩ := fun e => n (by injection e with e1; exact e1.symm)
  have ne2 (i j : Nat) : (⟨g, i, none⟩ : Addr) ≠ ⟨b2, j, none⟩ := fun e => n2 (by injection e with e1; exact e1.symm)
  have key (j : Nat) : (((w.setCell ⟨g, 0, none⟩ x0).setCell ⟨g, 1, none⟩ x1).setCell ⟨g, 2, none⟩ x2).cell? ⟨b, j, none⟩ = w.cell? ⟨b, j, none⟩ := by
    rw [cell_set_ne (ne 2 j), cell_set_ne (ne 1 j), cell_set_ne (ne 0 j)]
  have key2 (j : Nat) : (((w.setCell ⟨g, 0, none⟩ x0).setCell ⟨g, 1, none⟩ x1).setCell ⟨g, 2, none⟩ x2).cell? ⟨b2, j, none⟩ = w.cell? ⟨b2, j, none⟩ := by
    rw [cell_set_ne (ne2 2 j), cell_set_ne (ne2 1 j), cell_set_ne (ne2 0 j)]
  simp only [key, key2]
  exact h
theorem vl_snocD {W : List RD} {s : RD} (h : ∀ y ∈ W, y.vl = true) (hs : s.vl = true) : ∀ y ∈ W ++ [s], y.vl = true := by
  intro y hy
  rcases List.mem_append.1 hy with h1 | h1
  · exact h y h1
  simp only [List.mem_singleton] at h1; subst h1; exact hs
end Go.Proofs.YtpocjagbhiahdaaGreatDoor
