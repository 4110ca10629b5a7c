/-
  Walks: linear.disc.
-/
import Derived.Deep.DeepFit
import Derived.Deep.LoopGhost
import Derived.Deep.RegionLaw
import Derived.Deep.RegionHeld3
import Derived.Test.YtpocjagbhiahdaaGreatDoorMTabP
import Derived.Test.YtpocjagbhiahdaaGreatDoorMNrmM
namespace Go.Proofs.YtpocjagbhiahdaaGreatDoor
open Go.RowKit

set_option maxRecDepth 100000 in
set_option maxHeartbeats 8000000 in
theorem ldisc_any (r : List RI) (a : Option Addr) (c i q : Nat) (w : World) (hr : RowI w a r) (hl : r.length ≤ 8) (hv : ∀ x ∈ r, x.vl = true) (hi : i < r.length) (h0 : 8 ≤ q) (h1 : q ≤ 512) (hT : Tab w) :
    Calls Tryz.prog 54 #[.slice a r.length c, .int .i64 (i : Int), .int .i64 (q : Int)] w (IvOut w (dscF q (plR r) i)) := by
  have HR := Lib.hid hr
  have HT := Lib.hid hT
  have HV := Lib.hid hv
  obtain ⟨x, hx⟩ : ∃ x, r[i]? = some x := ⟨_, List.getElem?_eq_getElem hi⟩
  obtain ⟨b3, o3, e3, hxr, hx7⟩ := hr i x hx
  subst e3
  have HX := Lib.hid (And.intro hx (And.intro hxr (hv x (List.mem_of_getElem? hx))))
  have HX7 := Lib.hid hx7
  have hb3 : b3 < w.heap.size := World.block_lt_of_cell? w _ hx7.1
  obtain ⟨D, hD⟩ : ∃ D, D = dscF q (plR r) i := ⟨_, rfl⟩
  have HD := Lib.hid (show dscO q x.pl (dscS q i ((plR r).drop 0) 0 .zero) = D by
    have e : (plR r).getD i .whole = x.pl := by rw [List.getD_eq_getElem?_getD]; simp [plR, hx]
    rw [List.drop_zero, hD, dscF_O, e])
  rw [← hD]
  have hi1 : (0 : Int) ≤ (i : Int) := by omega
  have hi2 : (i : Int) < (r.length : Int) := by omega
  clear hr hT hv hD hx hxr hx7
  go_enter Tryz.func54, Tryz.ntmps54
  go_upto_region 2 with fail
  generalize hW : (World.alloc (World.alloc w _) _) = V at *
  have hkV : Kp w V := hW ▸ ((Kp.refl w).alloc _).alloc _
  have hRes : Var7 V w.heap.size := by rw [← hW]; exact (Var7.new w _).kp ((Kp.refl _).alloc _)
  have hAll : V.cell? ⟨w.heap.size + 1, 0, none⟩ = some (.bool wholeR.lo.neg) ∧ V.cell? ⟨w.heap.size + 1, 1, none⟩ = some (.slice wholeR.lo.a wholeR.lo.xs.length wholeR.lo.c) ∧ V.cell? ⟨w.heap.size + 1, 2, none⟩ = some (.int .i64 wholeR.lo.e) ∧ V.cell? ⟨w.heap.size + 1, 3, none⟩ = some (.bool wholeR.hi.neg) ∧ V.cell? ⟨w.heap.size + 1, 4, none⟩ = some (.slice wholeR.hi.a wholeR.hi.xs.length wholeR.hi.c) ∧ V.cell? ⟨w.heap.size + 1, 5, none⟩ = some (.int .i64 wholeR.hi.e) ∧ V.cell? ⟨w.heap.size + 1, 6, none⟩ = some (.bool wholeR.all) := by rw [← hW]; simp [wholeR, rdZero]
  clear hW
  have HKV := Lib.hid hkV
  have HRES := Lib.hid hRes
  have HALL := Lib.hid hAll
  have hb3V : b3 < V.heap.size := by have := hkV.size; omega
  clear hkV hRes hAll
  go_upto_region 3 with fail
  generalize hW2 : World.alloc V _ = W2 at *
  have hk2 : Kp V W2 := hW2 ▸ (Kp.refl V).alloc _
  have hY : BoxD W2 V.heap.size rdZero := by rw [← hW2]; exact Box3.new _ _ _ _ _
  clear hW2
  go_wp2_with fail
  go_loopg [23] r.length (fun n v wr => ∃ (k : Nat) (s : RD), k + n = r.length ∧ v = .int .i64 (k : Int) ∧ Kp V wr ∧ BoxD wr V.heap.size s ∧ s.ok wr ∧ 0 ≤ s.dy.iv ∧ dscO q x.pl (dscS q i ((plR r).drop k) k s.dy) = D ∧ ∀ j y, j < k → r[j]? = some y → y.all = false)
  case atStart => exact ⟨0, rdZero, by omega, rfl, hk2, hY, ⟨rdZero_rd _, rdZero_vl⟩, by show 0 ≤ Dy.iv .zero; exact Int.le_of_eq (Dy.iv_eq_zero.2 rfl).symm, HD.out, fun j y h => absurd h (Nat.not_lt_zero _)⟩
  case round =>
  obtain ⟨k, s, hkn, rfl, hks, hS, hso, hsp, hC, hna⟩ := hrel
  have HC := Lib.hid (And.intro hC (And.intro hsp hna))
  have HSo := Lib.hid hso
  clear hC hso hY hk2 hsp hna
  by_cases hlt2 : k < r.length
  · obtain ⟨y, hy⟩ : ∃ y, r[k]? = some y := ⟨_, List.getElem?_eq_getElem hlt2⟩
    obtain ⟨b4, o4, e4, hrd, s0, s1, s2, s3, s4, s5, s6⟩ := (HR.out.kp (HKV.out.trans hks)) k y hy
    cases e4
    have kA := (Kp.refl wr).alloc (.cells #[.bool y.lo.neg, .slice y.lo.a y.lo.xs.length y.lo.c, .int .i64 y.lo.e, .bool y.hi.neg, .slice y.hi.a y.hi.xs.length y.hi.c, .int .i64 y.hi.e, .bool y.all] 44)
    have Hy := Lib.hid hy
    have HY := Lib.hid (And.intro (hrd.kp kA) (HV.out y (List.mem_of_getElem? hy)))
    have hj1 : (0 : Int) ≤ (k : Int) := by omega
    have hj2 : (k : Int) < (r.length : Int) := by omega
    have Hkn := Lib.hid (And.intro hkn hlt2)
    have hSA := hS.kp kA
    have hKA := hks.trans kA
    clear hy hrd hkn hS hks
    go_upto_region 6 with fail
    clear s0 s1 s2 s3 s4 s5 s6
    generalize hW4 : wr.alloc _ = W4 at *
    obtain ⟨s0, s1, s2, s3, s4, s5, s6⟩ : W4.cell? ⟨wr.heap.size, 0, none⟩ = some (.bool y.lo.neg) ∧ W4.cell? ⟨wr.heap.size, 1, none⟩ = some (.slice y.lo.a y.lo.xs.length y.lo.c) ∧ W4.cell? ⟨wr.heap.size, 2, none⟩ = some (.int .i64 y.lo.e) ∧ W4.cell? ⟨wr.heap.size, 3, none⟩ = some (.bool y.hi.neg) ∧ W4.cell? ⟨wr.heap.size, 4, none⟩ = some (.slice y.hi.a y.hi.xs.length y.hi.c) ∧ W4.cell? ⟨wr.heap.size, 5, none⟩ = some (.int .i64 y.hi.e) ∧ W4.cell? ⟨wr.heap.size, 6, none⟩ = some (.bool y.all) := by rw [← hW4]; simp
    have kA4 := Lib.hid kA
    clear hW4 kA
    go_wp2_with fail
    go_fit (Mag_any y _ HY.out.1 HY.out.2)
    rintro e w5 ⟨z1, rfl, rz, dz, vz, k5⟩
    have kB := (Kp.refl w5).alloc (.cells #[.bool z1.neg, .slice z1.a z1.xs.length z1.c, .int .i64 z1.e] 42)
    have O1 := Lib.hid (show z1.ok (w5.alloc (.cells #[.bool z1.neg, .slice z1.a z1.xs.length z1.c, .int .i64 z1.e] 42)) from ⟨rz.kp kB, vz⟩)
    have D1 := Lib.hid dz
    have hSB := hSA.kp (k5.trans kB)
    have hKB := hKA.trans (k5.trans kB)
    clear rz dz vz hSA hKA s0 s1 s2 s3 s4 s5 s6
    have HWA := Lib.hid (kA4.out.trans (k5.trans kB))
    go_upto_region 7 with fail
    have SoB := Lib.hid (show s.ok (w5.alloc (.cells #[.bool z1.neg, .slice z1.a z1.xs.length z1.c, .int .i64 z1.e] 42)) from HSo.out.kp HWA.out)
    generalize hW5 : w5.alloc _ = W5 at *
    obtain ⟨m0, m1, m2⟩ : W5.cell? ⟨w5.heap.size, 0, none⟩ = some (.bool z1.neg) ∧ W5.cell? ⟨w5.heap.size, 1, none⟩ = some (.slice z1.a z1.xs.length z1.c) ∧ W5.cell? ⟨w5.heap.size, 2, none⟩ = some (.int .i64 z1.e) := by rw [← hW5]; simp
    clear hW5 kB k5
    cases hya : y.all with
    | true =>
      have HE := Lib.hid (show D = .whole from (HC.out.1.symm.trans (by rw [dscS_all Hy.out hya]; rfl)))
      have hBz := HRES.out.kp hKB
      have hAz := keep7 hKB HALL.out
      have hkz := HKV.out.trans hKB
      clear hSB m0 m1 m2 hKB hya
      obtain ⟨⟨q0, q1, q2, q3, q4, q5, q6⟩, f0, f1, f2, f3, f4, f5, f6⟩ := id hBz
      obtain ⟨s0, s1, s2, s3, s4, s5, s6⟩ := hAz
      go_wp2_with fail
      generalize hW9 : ((((((W5.setCell _ _).setCell _ _).setCell _ _).setCell _ _).setCell _ _).setCell _ _).setCell _ _ = W12
      clear s0 s1 s2 s3 s4 s5 s6
      obtain ⟨⟨s0, s1, s2, s3, s4, s5, s6⟩, hU⟩ := stored7 (show Box7 W5 _ _ _ _ _ _ _ _ from ⟨q0, q1, q2, q3, q4, q5, q6⟩) (fun _ h => by cases h) (fun _ h => by cases h) (fun _ h => by cases h) (fun _ h => by cases h) (fun _ h => by cases h) (fun _ h => by cases h) (fun _ h => by cases h) _ _ _ _ _ _ _ hW9
      clear hW9 q0 q1 q2 q3 q4 q5 q6 f0 f1 f2 f3 f4 f5 f6
      refine bodyPost_ret (v := .agg #[.bool wholeR.lo.neg, .slice wholeR.lo.a wholeR.lo.xs.length wholeR.lo.c, .int .i64 wholeR.lo.e, .bool wholeR.hi.neg, .slice wholeR.hi.a wholeR.hi.xs.length wholeR.hi.c, .int .i64 wholeR.hi.e, .bool wholeR.all]) (by simp [results, Tryz.results54, go_sem, s0, s1, s2, s3, s4, s5, s6]) rfl ?_
      rw [HE.out]
      exact ⟨wholeR, rfl, wholeR_rd _, rfl, rfl, hU.2.2.1 _ hkz (by omega)⟩
    | false =>
    have Hya := Lib.hid hya
    clear hya
    have Hna := Lib.hid (show ∀ j z, j < k + 1 → r[j]? = some z → z.all = false from fun j z hj hz => by
      rcases Nat.lt_succ_iff_lt_or_eq.1 hj with h | h
      · exact HC.out.2.2 j z h hz
      · subst h
        rw [Hy.out] at hz
        cases hz
        exact Hya.out)
    by_cases hki : k = i
    · have g1 : ((k : Int) == (i : Int)) = true := by rw [hki]; simp
      have HC2 := Lib.hid (show dscO q x.pl (dscS q i ((plR r).drop (k + 1)) (k + 1) s.dy) = D by rw [← dscS_at Hy.out Hya.out hki]; exact HC.out.1)
      clear hki
      go_wp2_with fail
      go_roundg (gk - 1)
      case rel => exact ⟨k + 1, s, by have := Hkn.out; omega, by go_num, hKB, hSB, SoB.out, HC.out.2.1, HC2.out, Hna.out⟩
      case measure => have := Hkn.out; omega
    have g1 : ((k : Int) == (i : Int)) = false := beq_eq_false_iff_ne.2 (by omega)
    have Hki := Lib.hid hki
    clear hki
    obtain ⟨q0, q1, q2, f0, f1, f2⟩ := id hSB
    go_wp2_with fail
    go_fit (addUp_ok s z1 h0 h1 _ SoB.out O1.out (HT.out.kp (HKV.out.trans hKB)))
    rintro e w6 ⟨z2, rfl, rz, dz, vz, k6⟩
    have kC := (Kp.refl w6).alloc (.cells #[.bool z2.neg, .slice z2.a z2.xs.length z2.c, .int .i64 z2.e] 42)
    have O2 := Lib.hid (show z2.ok (w6.alloc (.cells #[.bool z2.neg, .slice z2.a z2.xs.length z2.c, .int .i64 z2.e] 42)) from ⟨rz.kp kC, vz (adP_ok _ _ h0 h1 true)⟩)
    have D2 := Lib.hid dz
    have hSC := hSB.kp (k6.trans kC)
    have hKC := hKB.trans (k6.trans kC)
    clear rz dz vz hSB hKB q0 q1 q2 f0 f1 f2 m0 m1 m2
    go_upto_region 11 with fail
    generalize hW6 : w6.alloc _ = W6 at *
    obtain ⟨m0, m1, m2⟩ : W6.cell? ⟨w6.heap.size, 0, none⟩ = some (.bool z2.neg) ∧ W6.cell? ⟨w6.heap.size, 1, none⟩ = some (.slice z2.a z2.xs.length z2.c) ∧ W6.cell? ⟨w6.heap.size, 2, none⟩ = some (.int .i64 z2.e) := by rw [← hW6]; simp
    clear hW6 kC k6
    by_cases he : (adP s.dy z1.dy q true).2 = 0
    rotate_left
    · have g2 : ((adP s.dy z1.dy q true).2 != 0) = true := by rw [bne, beq_eq_false_iff_ne.2 he]; rfl
      have g3 : ((adP s.dy z1.dy q true).2 == 0) = false := beq_eq_false_iff_ne.2 he
      have HE := Lib.hid (show D = .whole from (HC.out.1.symm.trans (by rw [dscS_err Hy.out Hya.out Hki.out (by rw [← D1.out]; exact he)]; rfl)))
      have hBz := HRES.out.kp hKC
      have hAz := keep7 hKC HALL.out
      have hkz := HKV.out.trans hKC
      clear hSC m0 m1 m2 hKC he
      obtain ⟨⟨q0, q1, q2, q3, q4, q5, q6⟩, f0, f1, f2, f3, f4, f5, f6⟩ := id hBz
      obtain ⟨s0, s1, s2, s3, s4, s5, s6⟩ := hAz
      go_wp2_with fail
      generalize hW9 : ((((((W6.setCell _ _).setCell _ _).setCell _ _).setCell _ _).setCell _ _).setCell _ _).setCell _ _ = W12
      clear s0 s1 s2 s3 s4 s5 s6
      obtain ⟨⟨s0, s1, s2, s3, s4, s5, s6⟩, hU⟩ := stored7 (show Box7 W6 _ _ _ _ _ _ _ _ from ⟨q0, q1, q2, q3, q4, q5, q6⟩) (fun _ h => by cases h) (fun _ h => by cases h) (fun _ h => by cases h) (fun _ h => by cases h) (fun _ h => by cases h) (fun _ h => by cases h) (fun _ h => by cases h) _ _ _ _ _ _ _ hW9
      clear hW9 q0 q1 q2 q3 q4 q5 q6 f0 f1 f2 f3 f4 f5 f6
      refine bodyPost_ret (v := .agg #[.bool wholeR.lo.neg, .slice wholeR.lo.a wholeR.lo.xs.length wholeR.lo.c, .int .i64 wholeR.lo.e, .bool wholeR.hi.neg, .slice wholeR.hi.a wholeR.hi.xs.length wholeR.hi.c, .int .i64 wholeR.hi.e, .bool wholeR.all]) (by simp [results, Tryz.results54, go_sem, s0, s1, s2, s3, s4, s5, s6]) rfl ?_
      rw [HE.out]
      exact ⟨wholeR, rfl, wholeR_rd _, rfl, rfl, hU.2.2.1 _ hkz (by omega)⟩
    rw [he]
    have HC2 := Lib.hid (show dscO q x.pl (dscS q i ((plR r).drop (k + 1)) (k + 1) z2.dy) = D by
      rw [D2.out, D1.out, ← dscS_next Hy.out Hya.out Hki.out (by rw [← D1.out]; exact he)]; exact HC.out.1)
    have HP2 := Lib.hid (show 0 ≤ z2.dy.iv by
      have := adP_upS (a := s.dy) (b := z1.dy) h0 h1 he
      have := magP_pos y.pl
      have := HC.out.2.1
      rw [D2.out, D1.out]
      rw [D1.out] at *
      omega)
    clear he
    obtain ⟨q0, q1, q2, f0, f1, f2⟩ := id hSC
    go_wp2_with fail
    go_roundg (gk - 1)
    case measure => have := Hkn.out; omega
    case rel =>
    generalize hW9 : (((W6.setCell _ _).setCell _ _).setCell _ _) = W9
    obtain ⟨hN, hU⟩ := BoxD.store hSC z2 hW9
    exact ⟨k + 1, z2, by have := Hkn.out; omega, by go_num, hU.2.2.1 _ hKC (Nat.le_refl _), hN, hU.okD O2.out, HP2.out, HC2.out, Hna.out⟩
  have HC3 := Lib.hid (show dscO q x.pl (some s.dy) = D by
    have := HC.out.1
    rw [dscS_done (by omega)] at this
    exact this)
  have HSP := Lib.hid HC.out.2.1
  have HXA := Lib.hid (show x.all = false from HC.out.2.2 i x (by omega) HX.out.1)
  clear HC
  obtain ⟨W4, hW4⟩ : ∃ X : World, X = wr := ⟨_, rfl⟩
  subst hW4
  have HKS := Lib.hid hks
  have HKW := Lib.hid (HKV.out.trans hks)
  have HPX := Lib.hid (keep7 HKW.out HX7.out)
  have HPM := Lib.hid (show W4.cell? ⟨V.heap.size, 0, none⟩ = some (.bool s.neg) ∧ W4.cell? ⟨V.heap.size, 1, none⟩ = some (.slice s.a s.xs.length s.c) ∧ W4.cell? ⟨V.heap.size, 2, none⟩ = some (.int .i64 s.e) from ⟨hS.1, hS.2.1, hS.2.2.1⟩)
  have hb3W : b3 < W4.heap.size := by have := HKW.out.size; omega
  have hVW : V.heap.size < W4.heap.size := World.block_lt_of_cell? W4 _ hS.1
  have OX := Lib.hid (show x.ok W4 from ok_of (HX.out.2.1.kp HKW.out) HX.out.2.2 HXA.out)
  have HXP := Lib.hid (RI.pl_ok HX.out.2.1 HX.out.2.2)
  obtain ⟨L, hL⟩ : ∃ L, L = adP x.lo.dy s.dy.opp q false := ⟨_, rfl⟩
  obtain ⟨H, hH⟩ : ∃ H, H = adP x.hi.dy s.dy q true := ⟨_, rfl⟩
  have HLok := Lib.hid (show L.1.ok by rw [hL]; exact adP_ok _ _ h0 h1 _)
  have HHok := Lib.hid (show H.1.ok by rw [hH]; exact adP_ok _ _ h0 h1 _)
  have HM := Lib.hid (show D = mkI L H by rw [← HC3.out, hL, hH]; rfl)
  have HLE := Lib.hid (show L.2 = 0 → H.2 = 0 → L.1.iv ≤ H.1.iv by rw [hL, hH]; exact dscO_le HXP.out h0 h1 HSP.out)
  have HAD := Lib.hid (fun (W : World) (n : RD) (dn : n.dy = s.dy.opp) (on : n.ok W) (k : Kp W4 W) => rAddDown_of x.lo n (q : Int) L.1 L.2 W (fun W' k' => by
    have h := add_rd x.lo n q false W' ((OX.out.lo.1.kp k).kp k') (on.1.kp k') (((HT.out.kp HKW.out).kp k).kp k')
    rw [addB_dy (OX.out.lo.kp k) on h0 h1, dn, ← hL] at h
    exact h))
  have HAU0 := Lib.hid (fun (W : World) (k : Kp W4 W) => by
    have h := addUp_ok x.hi s h0 h1 W (OX.out.hi.kp k) (HSo.out.kp k) ((HT.out.kp HKW.out).kp k)
    rw [← hH] at h
    exact h)
  clear hL hH hks hS HC3 HSP hkn hb3 hb3V
  go_upto_region 15 with fail
  go_cut [15, 16] from 51 to 62 (fun s0 t0 wx => ∃ (b1 : Nat) (y : RD), s0 = .pointer (some ⟨b1, 0, none⟩) ∧ t0 = .int .i64 L.2 ∧ HasD W4 wx b1 y L.1)
  case first =>
    have hPC : (W4.cell? ⟨b3, o3 + i * 7, none⟩ = some (.bool x.lo.neg) ∧ W4.cell? ⟨b3, o3 + i * 7 + 1, none⟩ = some (.slice x.lo.a x.lo.xs.length x.lo.c) ∧ W4.cell? ⟨b3, o3 + i * 7 + 2, none⟩ = some (.int .i64 x.lo.e)) ∧ W4.cell? ⟨V.heap.size, 0, none⟩ = some (.bool s.neg) ∧ W4.cell? ⟨V.heap.size, 0 + 1, none⟩ = some (.slice s.a s.xs.length s.c) ∧ W4.cell? ⟨V.heap.size, 0 + 2, none⟩ = some (.int .i64 s.e) := by
      obtain ⟨x0, x1, x2, x3, x4, x5, x6⟩ := HPX.out
      obtain ⟨y0, y1, y2⟩ := HPM.out
      exact ⟨⟨x0, x1, x2⟩, y0, y1, y2⟩
    have kd := Lib.hid (Kp.refl W4).drew
    have hSd := keep33 kd.out hPC
    have HS0 := Lib.hid hPC
    have KZ := Lib.hid (show Kp W4 (W4.alloc (.cells #[.bool false, .slice none 0 0, .int .i64 0] 42)).drew from kd.out.trans ((Kp.refl W4.drew).alloc _))
    have HSZ := Lib.hid (keep33 KZ.out hPC)
    have BZ := Lib.hid (show Box3 (W4.alloc (.cells #[.bool false, .slice none 0 0, .int .i64 0] 42)).drew W4.heap.size _ _ _ from Box3.new W4.drew _ _ _ _)
    have n1 : b3 ≠ W4.heap.size := Nat.ne_of_lt hb3W
    have n2 : V.heap.size ≠ W4.heap.size := Nat.ne_of_lt hVW
    have HB8 := Lib.hid (And.intro hb3W hVW)
    clear hPC
    go_region_held3 (fun w' => (w'.cell? ⟨b3, o3 + i * 7, none⟩ = some (.bool x.lo.neg) ∧ w'.cell? ⟨b3, o3 + i * 7 + 1, none⟩ = some (.slice x.lo.a x.lo.xs.length x.lo.c) ∧ w'.cell? ⟨b3, o3 + i * 7 + 2, none⟩ = some (.int .i64 x.lo.e)) ∧ w'.cell? ⟨V.heap.size, 0, none⟩ = some (.bool s.neg) ∧ w'.cell? ⟨V.heap.size, 0 + 1, none⟩ = some (.slice s.a s.xs.length s.c) ∧ w'.cell? ⟨V.heap.size, 0 + 2, none⟩ = some (.int .i64 s.e)) (first | with_reducible assumption | with_reducible exact keep33 (by assumption) (by assumption) | with_reducible exact keep33 ((Kp.refl _).alloc _) (by assumption) | with_reducible exact set33x (by assumption) (by assumption) (by assumption) | with_reducible exact HSZ.out | fail)
      (first
        | (go_at_call 69; (with_reducible refine (Neg_ok s _ (HSo.out.kp kd.out)).mono ?_); rintro e v1 ⟨n, rfl, rn, dn, vn, j1⟩
           have KJ := Lib.hid (kd.out.trans j1)
           have hS1 := keep33 KJ.out HS0.out
           have ON := Lib.hid (And.intro (show n.ok v1 from ⟨rn, vn (Dy.opp_ok2 (rdok_dy HSo.out))⟩) (show n.dy = s.dy.opp from dn))
           clear rn dn vn)
        | (go_at_call 69; (with_reducible refine (Neg_ok s _ (HSo.out.kp KZ.out)).mono ?_); rintro e v1 ⟨n, rfl, rn, dn, vn, j1⟩
           have KJ := Lib.hid (KZ.out.trans j1)
           have hS1 := keep33 KJ.out HS0.out
           have BV := Lib.hid (BZ.out.kp j1)
           have ON := Lib.hid (And.intro (show n.ok v1 from ⟨rn, vn (Dy.opp_ok2 (rdok_dy HSo.out))⟩) (show n.dy = s.dy.opp from dn))
           clear rn dn vn)
        | (go_at_call 68; (with_reducible refine (HAD.out _ n ON.out.2 ON.out.1 KJ.out).mono ?_); rintro e v2 ⟨z, rfl, zr, zd, zv, j2⟩
           have hS2 := keep33 j2 hS1
           have OZ := Lib.hid (And.intro (show z.ok v2 from ⟨zr, zv HLok.out⟩) (show z.dy = _ from zd))
           have KF := Lib.hid (KJ.out.trans j2)
           clear zr zd zv
           first
             | (have BF := Lib.hid (BV.out.kp j2)
                obtain ⟨q0, q1, q2, f0, f1, f2⟩ := id BF.out
                have GF := Lib.hid (Nat.le_refl W4.heap.size))
             | skip)
        | (go_at_call 68; (with_reducible refine (HAD.out _ n ON.out.2 (ON.out.1.kp ((Kp.refl _).alloc _)) (KJ.out.alloc _)).mono ?_); rintro e v2 ⟨z, rfl, zr, zd, zv, j2⟩
           have hS2 := keep33 (((Kp.refl _).alloc _).trans j2) hS1
           have OZ := Lib.hid (And.intro (show z.ok v2 from ⟨zr, zv HLok.out⟩) (show z.dy = _ from zd))
           have KF := Lib.hid ((KJ.out.alloc _).trans j2)
           have GF := Lib.hid KJ.out.size
           have n3 : b3 ≠ v1.heap.size := by have := GF.out; have := HB8.out; omega
           have n4 : V.heap.size ≠ v1.heap.size := by have := GF.out; have := HB8.out; omega
           have BF := Lib.hid ((Box3.new v1 (.bool false) (.slice none 0 0) (.int .i64 0) 42).kp j2)
           clear zr zd zv
           obtain ⟨q0, q1, q2, f0, f1, f2⟩ := id BF.out)
        | fail)
    all_goals
      go_wp2_with fail
      go_meet
      case rel => first
        | exact ⟨_, z, rfl, rfl, hasD_store BF.out (fun _ h => by cases h) (fun _ h => by cases h) (fun _ h => by cases h) OZ.out.1 OZ.out.2 KF.out GF.out⟩
        | exact ⟨_, z, rfl, rfl, hasD_alloc OZ.out.1 OZ.out.2 KF.out _⟩
  case rest =>
  obtain ⟨b1, y, rfl, rfl, hD1⟩ := hcut
  obtain ⟨W8, hW8⟩ : ∃ X : World, X = wc := ⟨_, rfl⟩
  subst hW8
  have k8 := hD1.2.2.2.1
  have HD1 := Lib.hid hD1
  have HPX8 := Lib.hid (keep7 k8 HPX.out)
  have HPM8 := Lib.hid (keep3 k8 HPM.out)
  have hb3c : b3 < W8.heap.size := by have := k8.size; omega
  have hVWc : V.heap.size < W8.heap.size := by have := k8.size; omega
  have HAU := Lib.hid (fun (W : World) (k : Kp W8 W) => HAU0.out W (k8.trans k))
  have HKS8 := Lib.hid (HKS.out.trans k8)
  clear hD1 k8 HAD HAU0 hb3W hVW HPX HPM
  go_upto_region 16 with fail
  go_cut [17, 18] from 63 to 73 (fun s0 t0 wx => ∃ (b1 : Nat) (y : RD), s0 = .pointer (some ⟨b1, 0, none⟩) ∧ t0 = .int .i64 H.2 ∧ HasD W8 wx b1 y H.1)
  case first =>
    have hPC : (W8.cell? ⟨b3, o3 + i * 7 + 3, none⟩ = some (.bool x.hi.neg) ∧ W8.cell? ⟨b3, o3 + i * 7 + 3 + 1, none⟩ = some (.slice x.hi.a x.hi.xs.length x.hi.c) ∧ W8.cell? ⟨b3, o3 + i * 7 + 3 + 2, none⟩ = some (.int .i64 x.hi.e)) ∧ W8.cell? ⟨V.heap.size, 0, none⟩ = some (.bool s.neg) ∧ W8.cell? ⟨V.heap.size, 0 + 1, none⟩ = some (.slice s.a s.xs.length s.c) ∧ W8.cell? ⟨V.heap.size, 0 + 2, none⟩ = some (.int .i64 s.e) := by
      obtain ⟨x0, x1, x2, x3, x4, x5, x6⟩ := HPX8.out
      obtain ⟨y0, y1, y2⟩ := HPM8.out
      exact ⟨⟨x3, x4, x5⟩, y0, y1, y2⟩
    have kd := Lib.hid (Kp.refl W8).drew
    have hSd := keep33 kd.out hPC
    have HS0 := Lib.hid hPC
    have KZ := Lib.hid (show Kp W8 (W8.alloc (.cells #[.bool false, .slice none 0 0, .int .i64 0] 42)).drew from kd.out.trans ((Kp.refl W8.drew).alloc _))
    have HSZ := Lib.hid (keep33 KZ.out hPC)
    have BZ := Lib.hid (show Box3 (W8.alloc (.cells #[.bool false, .slice none 0 0, .int .i64 0] 42)).drew W8.heap.size _ _ _ from Box3.new W8.drew _ _ _ _)
    have n1 : b3 ≠ W8.heap.size := Nat.ne_of_lt hb3c
    have n2 : V.heap.size ≠ W8.heap.size := Nat.ne_of_lt hVWc
    have HB8 := Lib.hid (And.intro hb3c hVWc)
    clear hPC
    go_region_held3 (fun w' => (w'.cell? ⟨b3, o3 + i * 7 + 3, none⟩ = some (.bool x.hi.neg) ∧ w'.cell? ⟨b3, o3 + i * 7 + 3 + 1, none⟩ = some (.slice x.hi.a x.hi.xs.length x.hi.c) ∧ w'.cell? ⟨b3, o3 + i * 7 + 3 + 2, none⟩ = some (.int .i64 x.hi.e)) ∧ w'.cell? ⟨V.heap.size, 0, none⟩ = some (.bool s.neg) ∧ w'.cell? ⟨V.heap.size, 0 + 1, none⟩ = some (.slice s.a s.xs.length s.c) ∧ w'.cell? ⟨V.heap.size, 0 + 2, none⟩ = some (.int .i64 s.e)) (first | with_reducible assumption | with_reducible exact keep33 (by assumption) (by assumption) | with_reducible exact keep33 ((Kp.refl _).alloc _) (by assumption) | with_reducible exact set33x (by assumption) (by assumption) (by assumption) | with_reducible exact HSZ.out | fail)
      (first
        | (go_at_call 106; (with_reducible refine (HAU.out _ kd.out).mono ?_); rintro e v2 ⟨z, rfl, zr, zd, zv, j2⟩
           have KF := Lib.hid (kd.out.trans j2)
           have hS2 := keep33 KF.out HS0.out
           have OZ := Lib.hid (And.intro (show z.ok v2 from ⟨zr, zv HHok.out⟩) (show z.dy = _ from zd))
           clear zr zd zv)
        | (go_at_call 106; (with_reducible refine (HAU.out _ KZ.out).mono ?_); rintro e v2 ⟨z, rfl, zr, zd, zv, j2⟩
           have KF := Lib.hid (KZ.out.trans j2)
           have hS2 := keep33 KF.out HS0.out
           have OZ := Lib.hid (And.intro (show z.ok v2 from ⟨zr, zv HHok.out⟩) (show z.dy = _ from zd))
           have BF := Lib.hid (BZ.out.kp j2)
           have GF := Lib.hid (Nat.le_refl W8.heap.size)
           clear zr zd zv
           obtain ⟨q0, q1, q2, f0, f1, f2⟩ := id BF.out)
        | fail)
    all_goals
      go_wp2_with fail
      go_meet
      case rel => first
        | exact ⟨_, z, rfl, rfl, hasD_store BF.out (fun _ h => by cases h) (fun _ h => by cases h) (fun _ h => by cases h) OZ.out.1 OZ.out.2 KF.out GF.out⟩
        | exact ⟨_, z, rfl, rfl, hasD_alloc OZ.out.1 OZ.out.2 KF.out _⟩
  case rest =>
  obtain ⟨b2, t, rfl, rfl, hD2⟩ := hcut
  obtain ⟨W9, hW9⟩ : ∃ X : World, X = wc := ⟨_, rfl⟩
  subst hW9
  have k9 := hD2.2.2.2.1
  have HD1 := Lib.hid (HD1.out.kp k9)
  have HD2 := Lib.hid hD2
  have hKS9 := HKS8.out.trans k9
  have hBz := HRES.out.kp hKS9
  have hAz := keep7 hKS9 HALL.out
  have hkz := HKV.out.trans hKS9
  clear hD2 k9 HAU HPX8 HPM8 HKS8 hKS9 hb3c hVWc
  by_cases hf : L.2 = 0
  rotate_left
  · have g2 : (L.2 != 0) = true := by rw [bne, beq_eq_false_iff_ne.2 hf]; rfl
    have g3 : (L.2 == 0) = false := beq_eq_false_iff_ne.2 hf
    have HE := Lib.hid (show D = .whole by rw [HM.out, mkI_bad (.inl hf)])
    clear hf
    obtain ⟨⟨q0, q1, q2, q3, q4, q5, q6⟩, f0, f1, f2, f3, f4, f5, f6⟩ := id hBz
    obtain ⟨s0, s1, s2, s3, s4, s5, s6⟩ := hAz
    go_wp2_with fail
    generalize hW9 : ((((((W9.setCell _ _).setCell _ _).setCell _ _).setCell _ _).setCell _ _).setCell _ _).setCell _ _ = W12
    clear s0 s1 s2 s3 s4 s5 s6
    obtain ⟨⟨s0, s1, s2, s3, s4, s5, s6⟩, hU⟩ := stored7 (show Box7 W9 _ _ _ _ _ _ _ _ from ⟨q0, q1, q2, q3, q4, q5, q6⟩) (fun _ h => by cases h) (fun _ h => by cases h) (fun _ h => by cases h) (fun _ h => by cases h) (fun _ h => by cases h) (fun _ h => by cases h) (fun _ h => by cases h) _ _ _ _ _ _ _ hW9
    clear hW9 q0 q1 q2 q3 q4 q5 q6 f0 f1 f2 f3 f4 f5 f6
    refine bodyPost_ret (v := .agg #[.bool wholeR.lo.neg, .slice wholeR.lo.a wholeR.lo.xs.length wholeR.lo.c, .int .i64 wholeR.lo.e, .bool wholeR.hi.neg, .slice wholeR.hi.a wholeR.hi.xs.length wholeR.hi.c, .int .i64 wholeR.hi.e, .bool wholeR.all]) (by simp [results, Tryz.results54, go_sem, s0, s1, s2, s3, s4, s5, s6]) rfl ?_
    rw [HE.out]
    exact ⟨wholeR, rfl, wholeR_rd _, rfl, rfl, hU.2.2.1 _ hkz (by omega)⟩
  rw [hf]
  by_cases hg : H.2 = 0
  · rw [hg]
    have HE := Lib.hid (show D = ⟨L.1, H.1, false⟩ by rw [HM.out, mkI_good hf hg])
    have HLE := Lib.hid (HLE.out hf hg)
    clear hf hg hAz
    obtain ⟨m0, m1, m2⟩ := HD1.out.1
    obtain ⟨n0, n1, n2⟩ := HD2.out.1
    obtain ⟨⟨q0, q1, q2, q3, q4, q5, q6⟩, f0, f1, f2, f3, f4, f5, f6⟩ := id hBz
    go_wp2_with fail
    generalize hW9 : ((((((W9.setCell _ _).setCell _ _).setCell _ _).setCell _ _).setCell _ _).setCell _ _).setCell _ _ = W12
    obtain ⟨⟨s0, s1, s2, s3, s4, s5, s6⟩, hU⟩ := stored7 (show Box7 W9 _ _ _ _ _ _ _ _ from ⟨q0, q1, q2, q3, q4, q5, q6⟩) (fun _ h => by cases h) (fun _ h => by cases h) (fun _ h => by cases h) (fun _ h => by cases h) (fun _ h => by cases h) (fun _ h => by cases h) (fun _ h => by cases h) _ _ _ _ _ _ _ hW9
    clear hW9 q0 q1 q2 q3 q4 q5 q6 f0 f1 f2 f3 f4 f5 f6
    refine bodyPost_ret (v := .agg #[.bool (⟨y, t, false⟩ : RI).lo.neg, .slice (⟨y, t, false⟩ : RI).lo.a (⟨y, t, false⟩ : RI).lo.xs.length (⟨y, t, false⟩ : RI).lo.c, .int .i64 (⟨y, t, false⟩ : RI).lo.e, .bool (⟨y, t, false⟩ : RI).hi.neg, .slice (⟨y, t, false⟩ : RI).hi.a (⟨y, t, false⟩ : RI).hi.xs.length (⟨y, t, false⟩ : RI).hi.c, .int .i64 (⟨y, t, false⟩ : RI).hi.e, .bool (⟨y, t, false⟩ : RI).all]) (by simp [results, Tryz.results54, go_sem, s0, s1, s2, s3, s4, s5, s6]) rfl ?_
    rw [HE.out]
    exact ⟨⟨y, t, false⟩, rfl, hU.rdI ⟨HD1.out.2.1.1, HD2.out.2.1.1⟩, by show (⟨y.dy, t.dy, false⟩ : PI) = _; rw [HD1.out.2.2.1, HD2.out.2.2.1], vl_mk2 HD1.out.2.1.2 HD2.out.2.1.2 (by show y.dy.iv ≤ t.dy.iv; rw [HD1.out.2.2.1, HD2.out.2.2.1]; exact HLE.out), hU.2.2.1 _ hkz (by omega)⟩
  have g2 : (H.2 != 0) = true := by rw [bne, beq_eq_false_iff_ne.2 hg]; rfl
  have g3 : (H.2 == 0) = false := beq_eq_false_iff_ne.2 hg
  have HE := Lib.hid (show D = .whole by rw [HM.out, mkI_bad (.inr hg)])
  clear hf hg
  obtain ⟨⟨q0, q1, q2, q3, q4, q5, q6⟩, f0, f1, f2, f3, f4, f5, f6⟩ := id hBz
  obtain ⟨s0, s1, s2, s3, s4, s5, s6⟩ := hAz
  go_wp2_with fail
  generalize hW9 : ((((((W9.setCell _ _).setCell _ _).setCell _ _).setCell _ _).setCell _ _).setCell _ _).setCell _ _ = W12
  clear s0 s1 s2 s3 s4 s5 s6
  obtain ⟨⟨s0, s1, s2, s3, s4, s5, s6⟩, hU⟩ := stored7 (show Box7 W9 _ _ _ _ _ _ _ _ from ⟨q0, q1, q2, q3, q4, q5, q6⟩) (fun _ h => by cases h) (fun _ h => by cases h) (fun _ h => by cases h) (fun _ h => by cases h) (fun _ h => by cases h) (fun _ h => by cases h) (fun _ h => by cases h) _ _ _ _ _ _ _ hW9
  clear hW9 q0 q1 q2 q3 q4 q5 q6 f0 f1 f2 f3 f4 f5 f6
  refine bodyPost_ret (v := .agg #[.bool wholeR.lo.neg, .slice wholeR.lo.a wholeR.lo.xs.length wholeR.lo.c, .int .i64 wholeR.lo.e, .bool wholeR.hi.neg, .slice wholeR.hi.a wholeR.hi.xs.length wholeR.hi.c, .int .i64 wholeR.hi.e, .bool wholeR.all]) (by simp [results, Tryz.results54, go_sem, s0, s1, s2, s3, s4, s5, s6]) rfl ?_
  rw [HE.out]
  exact ⟨wholeR, rfl, wholeR_rd _, rfl, rfl, hU.2.2.1 _ hkz (by omega)⟩
end Go.Proofs.YtpocjagbhiahdaaGreatDoor
