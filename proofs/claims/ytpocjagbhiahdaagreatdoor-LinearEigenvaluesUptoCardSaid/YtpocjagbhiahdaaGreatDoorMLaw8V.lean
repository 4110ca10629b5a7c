/-
  Walks: LinearEigenvalues.
-/
import Derived.Deep.CutRange
import Derived.Deep.DeepFit
import Derived.Deep.LoopGhost
import Derived.Deep.RegionHeld3
import Derived.Laws.EntriesVeiled
import Derived.Test.YtpocjagbhiahdaaGreatDoorMDscN
import Derived.Test.YtpocjagbhiahdaaGreatDoorMPts8
import Derived.Test.YtpocjagbhiahdaaGreatDoorMEigP
import Derived.Test.YtpocjagbhiahdaaGreatDoorMEchM
import Derived.Test.YtpocjagbhiahdaaGreatDoorMIdxI
namespace Go.Proofs.YtpocjagbhiahdaaGreatDoor
open Go.RowKit

theorem keep71 {w w' : World} (k : Kp w w') {p0 p1 p2 p3 p4 p5 p6 q0 : Addr} {v0 v1 v2 v3 v4 v5 v6 u0 : Value}
    (h : (w.cell? p0 = some v0 ∧ w.cell? p1 = some v1 ∧ w.cell? p2 = some v2 ∧ w.cell? p3 = some v3 ∧ w.cell? p4 = some v4 ∧ w.cell? p5 = some v5 ∧ w.cell? p6 = some v6) ∧ w.cell? q0 = some u0) :
    (w'.cell? p0 = some v0 ∧ w'.cell? p1 = some v1 ∧ w'.cell? p2 = some v2 ∧ w'.cell? p3 = some v3 ∧ w'.cell? p4 = some v4 ∧ w'.cell? p5 = some v5 ∧ w'.cell? p6 = some v6) ∧ w'.cell? q0 = some u0 := ⟨keep7 k h.1, k.cell h.2⟩
set_option maxRecDepth 100000 in
set_option maxHeartbeats 4000000 in
theorem eig1_any (x : RI) (v : Int) (bv : Nat) (w : World) (hx : x.rd w) (vx : x.vl = true) (hv : -128 ≤ v ∧ v ≤ 127) (hc : w.cell? ⟨bv, 0, none⟩ = some (.int .i8 v)) :
    Calls Tryz.prog 20 #[.agg #[.bool x.lo.neg, .slice x.lo.a x.lo.xs.length x.lo.c, .int .i64 x.lo.e, .bool x.hi.neg, .slice x.hi.a x.hi.xs.length x.hi.c, .int .i64 x.hi.e, .bool x.all], .pointer (some ⟨bv, 0, none⟩)] w fun e w' => e = .returned (.bool (hasX x.pl (intD v).iv)) ∧ Kp w w' := by
  have k1 := (Kp.refl w).alloc (.cells #[.bool x.lo.neg, .slice x.lo.a x.lo.xs.length x.lo.c, .int .i64 x.lo.e, .bool x.hi.neg, .slice x.hi.a x.hi.xs.length x.hi.c, .int .i64 x.hi.e, .bool x.all] 44)
  have HX := Lib.hid (hx.kp k1)
  have HB := Lib.hid hv
  have hw : IntKind.i64.wrap v = v := IntWalk.i64_in v (by omega)
  have hc1 := k1.cell hc
  have hS : (w.alloc (.cells #[.bool x.lo.neg, .slice x.lo.a x.lo.xs.length x.lo.c, .int .i64 x.lo.e, .bool x.hi.neg, .slice x.hi.a x.hi.xs.length x.hi.c, .int .i64 x.hi.e, .bool x.all] 44)).cell? ⟨w.heap.size, 0, none⟩ = some (.bool x.lo.neg) ∧ (w.alloc (.cells #[.bool x.lo.neg, .slice x.lo.a x.lo.xs.length x.lo.c, .int .i64 x.lo.e, .bool x.hi.neg, .slice x.hi.a x.hi.xs.length x.hi.c, .int .i64 x.hi.e, .bool x.all] 44)).cell? ⟨w.heap.size, 1, none⟩ = some (.slice x.lo.a x.lo.xs.length x.lo.c) ∧ (w.alloc (.cells #[.bool x.lo.neg, .slice x.lo.a x.lo.xs.length x.lo.c, .int .i64 x.lo.e, .bool x.hi.neg, .slice x.hi.a x.hi.xs.length x.hi.c, .int .i64 x.hi.e, .bool x.all] 44)).cell? ⟨w.heap.size, 2, none⟩ = some (.int .i64 x.lo.e) ∧ (w.alloc (.cells #[.bool x.lo.neg, .slice x.lo.a x.lo.xs.length x.lo.c, .int .i64 x.lo.e, .bool x.hi.neg, .slice x.hi.a x.hi.xs.length x.hi.c, .int .i64 x.hi.e, .bool x.all] 44)).cell? ⟨w.heap.size, 3, none⟩ = some (.bool x.hi.neg) ∧ (w.alloc (.cells #[.bool x.lo.neg, .slice x.lo.a x.lo.xs.length x.lo.c, .int .i64 x.lo.e, .bool x.hi.neg, .slice x.hi.a x.hi.xs.length x.hi.c, .int .i64 x.hi.e, .bool x.all] 44)).cell? ⟨w.heap.size, 4, none⟩ = some (.slice x.hi.a x.hi.xs.length x.hi.c) ∧ (w.alloc (.cells #[.bool x.lo.neg, .slice x.lo.a x.lo.xs.length x.lo.c, .int .i64 x.lo.e, .bool x.hi.neg, .slice x.hi.a x.hi.xs.length x.hi.c, .int .i64 x.hi.e, .bool x.all] 44)).cell? ⟨w.heap.size, 5, none⟩ = some (.int .i64 x.hi.e) ∧ (w.alloc (.cells #[.bool x.lo.neg, .slice x.lo.a x.lo.xs.length x.lo.c, .int .i64 x.lo.e, .bool x.hi.neg, .slice x.hi.a x.hi.xs.length x.hi.c, .int .i64 x.hi.e, .bool x.all] 44)).cell? ⟨w.heap.size, 6, none⟩ = some (.bool x.all) := by simp
  clear hx hc hv
  go_enter Tryz.func20, Tryz.ntmps20
  go_upto_region 1 with fail
  generalize w.alloc _ = W at *
  have HK := Lib.hid k1
  have KJ := Lib.hid (Kp.refl W).drew
  have HS := Lib.hid (And.intro hS hc1)
  have hSd := keep71 KJ.out HS.out
  clear k1 hS hc1
  go_region_held3 (fun w' => (w'.cell? ⟨w.heap.size, 0, none⟩ = some (.bool x.lo.neg) ∧ w'.cell? ⟨w.heap.size, 1, none⟩ = some (.slice x.lo.a x.lo.xs.length x.lo.c) ∧ w'.cell? ⟨w.heap.size, 2, none⟩ = some (.int .i64 x.lo.e) ∧ w'.cell? ⟨w.heap.size, 3, none⟩ = some (.bool x.hi.neg) ∧ w'.cell? ⟨w.heap.size, 4, none⟩ = some (.slice x.hi.a x.hi.xs.length x.hi.c) ∧ w'.cell? ⟨w.heap.size, 5, none⟩ = some (.int .i64 x.hi.e) ∧ w'.cell? ⟨w.heap.size, 6, none⟩ = some (.bool x.all)) ∧ w'.cell? ⟨bv, 0, none⟩ = some (.int .i8 v)) (first | with_reducible assumption | with_reducible exact keep71 (by assumption) (by assumption) | fail)
    (first
      | (go_at_call 22; (with_reducible refine (d8_any v _ (by have := HB.out; omega)).mono ?_); rintro e v1 ⟨y, rfl, oy, dy, j1⟩
         replace KJ := Lib.hid (KJ.out.trans j1)
         have OY := Lib.hid (And.intro oy.1 (And.intro oy.2 dy))
         clear oy dy
         have hSn := keep71 KJ.out HS.out)
      | (go_at_call 21; (with_reducible refine (IHas_vl x y _ (HX.out.kp KJ.out) OY.out.1 vx OY.out.2.1).mono ?_); rintro e v2 ⟨rfl, j1⟩
         replace KJ := Lib.hid (KJ.out.trans j1)
         have hSn := keep71 KJ.out HS.out)
      | fail)
  have HY := Lib.hid (show y.iv = (intD v).iv by show y.dy.iv = _; rw [OY.out.2.2])
  rw [HY.out]
  go_wp2_with fail
  go_ret
  exact ⟨rfl, HK.out.trans KJ.out⟩
set_option maxRecDepth 100000 in
set_option maxHeartbeats 8000000 in
theorem Eigen8_ok (n : Nat) (l : List Nat) (v : Int) (a : Option Addr) (c : Nat) (w : World) (hn : n < 256) (hl : RowY w a l) (hll : l.length ≤ 1100000) (hb : ∀ x ∈ l, x < 256) (hv : -128 ≤ v ∧ v ≤ 127) (hT : Tab w) :
    Calls Tryz.prog 5 #[.int .u8 (n : Int), .slice a l.length c, .int .i8 v] w fun e w' => e = .returned (.bool true) ∧ Kp w w' := by
  obtain ⟨k, hk⟩ : ∃ k, k = modK n := ⟨_, rfl⟩
  have hk3 : k = 1 ∨ k = 2 ∨ k = 3 := by rw [hk]; unfold modK; omega
  have HMO := Lib.hid (fun (W : World) (hW : Kp w W) => modest_k n k l a c W hn hk hk3 (hl.kp hW) hll hb)
  obtain ⟨m, hm⟩ : ∃ m, m = modF k l := ⟨_, rfl⟩
  have HR := Lib.hid (show rectZ m k by rw [hm, hk]; exact modF_rect n l)
  have HML := Lib.hid (show m.length = k by rw [hm]; exact modF_len k l)
  have HM20 := Lib.hid (show ∀ r ∈ m, ∀ x ∈ r, x.natAbs ≤ 20 from fun r hr x hx => by
    rw [hm] at hr
    unfold modF at hr
    obtain ⟨i, _, rfl⟩ := List.mem_map.1 hr
    unfold modR at hx
    obtain ⟨j, _, rfl⟩ := List.mem_map.1 hx
    exact modV_abs _ _)
  rw [← hm] at HMO
  have HK3 := Lib.hid hk3
  have HV := Lib.hid hv
  have HT := Lib.hid hT
  have kb := (Kp.refl w).alloc (.cells #[.int .i8 v] 48)
  have hcb : (w.alloc (.cells #[.int .i8 v] 48)).cell? ⟨w.heap.size, 0, none⟩ = some (.int .i8 v) := by simp
  clear hl hb hT hm hk hk3
  go_enter Tryz.func5, Tryz.ntmps5
  go_upto_region 1 with fail
  generalize w.alloc _ = W at *
  have HKW := Lib.hid kb
  have HCB := Lib.hid hcb
  clear kb hcb
  go_wp2_with fail
  go_fit (awake8_any _ (HT.out.kp HKW.out))
  rintro e w1 ⟨rfl, k1⟩
  have HK1 := Lib.hid k1
  clear k1
  go_wp2_with fail
  go_fit (HMO.out _ (HKW.out.trans HK1.out))
  rintro e w2 ⟨g1, bs1, rfl, hG1⟩
  have HG1 := Lib.hid hG1
  have HK2 := Lib.hid (HK1.out.trans hG1.2.1)
  clear hG1
  go_wp2_with fail
  go_fit (HMO.out _ (HKW.out.trans HK2.out))
  rintro e w3 ⟨g2, bs2, rfl, hG2⟩
  have HG2 := Lib.hid hG2
  have HK3b := Lib.hid (HK2.out.trans hG2.2.1)
  have hlm : m.length ≤ 3 := by have := HML.out; have := HK3.out; omega
  clear hG2
  go_wp2_with fail
  go_loopg [22] m.length (fun q t wr => ∃ (j : Nat), j + q = m.length ∧ t = .int .i64 (j : Int) ∧ GridZ w2 wr g2 (shZ m v j) bs2)
  case atStart => exact ⟨0, by omega, rfl, HG2.out⟩
  case round =>
  obtain ⟨j, hjq, rfl, hG⟩ := hrel
  by_cases hlt : j < m.length
  · obtain ⟨r, hr⟩ : ∃ r, (shZ m v j)[j]? = some r := ⟨_, List.getElem?_eq_getElem (by rw [shZ_len]; exact hlt)⟩
    have hrm : m[j]? = some r := by rw [← shZ_at m v j j (Nat.le_refl _)]; exact hr
    have hrl := (HR.out.2.2 r (List.mem_of_getElem? hrm)).1
    have hjr : j < r.length := by have := HML.out; omega
    obtain ⟨x, hx⟩ : ∃ x, r[j]? = some x := ⟨_, List.getElem?_eq_getElem hjr⟩
    have hx20 := HM20.out r (List.mem_of_getElem? hrm) x (List.mem_of_getElem? hx)
    have HG := Lib.hid hG
    obtain ⟨cc, hcr⟩ := hG.2.2.1 j r hr
    obtain ⟨q1, q2, q3, q4⟩ := hG.2.2.2.1 j r hr
    obtain ⟨hcx, hfx⟩ := q4 j x hx
    have hkg := hG.2.1
    have hcv := (HK3b.out.trans (Kp.refl _)).cell HCB.out
    have hcv := hkg.cell (HK2.out.cell HCB.out)
    have hne : w.heap.size ≠ bs2 j := by
      have h1 := World.block_lt_of_cell? _ _ (HK2.out.cell HCB.out)
      have h2 : w.heap.size < w2.heap.size := h1
      omega
    have HS := Lib.hid (HG.out.set hr hx (x - v))
    have HE := Lib.hid (show (shZ m v j).set j (r.set j (x - v)) = shZ m v (j + 1) by
      conv => rhs; unfold shZ
      rw [List.getD_eq_getElem?_getD, hr]
      show _ = (shZ m v j).set j (r.set j (r.getD j 0 - v))
      rw [List.getD_eq_getElem?_getD, hx]; rfl)
    have hx1 : -20 ≤ x := by omega
    have hx2 : x ≤ 20 := by omega
    have hv1 : -128 ≤ v := HV.out.1
    have hv2 : v ≤ 127 := HV.out.2
    have hj1 : (0 : Int) ≤ (j : Int) := by omega
    have hj2 : (j : Int) < (m.length : Int) := by omega
    have hj3 : (j : Int) < (r.length : Int) := by omega
    have hww : IntKind.i64.wrap v = v := IntWalk.i64_in v (by omega)
    have hwx : IntKind.i64.wrap (x - v) = x - v := IntWalk.i64_in _ (by omega)
    have Hj := Lib.hid (And.intro hjq hlt)
    clear hr hrm hx hx20 q1 q2 q3 q4 hG hkg hjq hlt hrl
    go_upto_region 8 with fail
    go_region
    all_goals
      go_wp2_with fail
      go_roundg (gk - 1)
      case measure => have := Hj.out; omega
      case rel =>
        exact ⟨j + 1, by have := Hj.out; omega, by rw [Int.natCast_add]; rfl, by rw [← HE.out]; exact HS.out.kp (Kp.refl _).drew⟩
  obtain rfl : j = m.length := by omega
  have HG := Lib.hid hG
  have HKR := Lib.hid hG.2.1
  have HPO := Lib.hid (points8_any m k (some ⟨g1, 0, none⟩) m.length wr (HG1.out.row.kp HKR.out) HR.out)
  have HKA := Lib.hid (HK2.out.trans HKR.out)
  clear hG hjq hlt
  go_wp2_with fail
  go_fit HPO.out
  rintro e w4 ⟨a4, Z, c4, rfl, hZ, pZ, oZ, lZ, k4⟩
  have HKB := Lib.hid (HKA.out.trans k4)
  have HDi := Lib.hid (ldiscs_any Z a4 c4 64 w4 hZ lZ (HT.out.kp (HKW.out.trans HKB.out)))
  rw [dscC_int pZ oZ HR.out HML.out] at HDi
  have HG4 := Lib.hid (HG.out.kp k4)
  clear hZ pZ oZ lZ k4 HPO
  go_wp2_with fail
  go_fit HDi.out
  rintro e w5 ⟨a5, Y, c5, rfl, hY, pY, vY, lY, k5⟩
  have hYl : Y.length = m.length := by have := congrArg List.length pY; simp [plR] at this; rw [HML.out]; exact this
  have hne : ((Y.length : Int) != (m.length : Int)) = false := by rw [hYl]; simp
  have HKC := Lib.hid (HKB.out.trans k5)
  have HYY := Lib.hid (And.intro hY (And.intro pY vY))
  have HG5 := Lib.hid (HG4.out.kp k5)
  have HDe := Lib.hid (r8det_any (shZ m v m.length) k (some ⟨g2, 0, none⟩) m.length w5 HG5.out.row (by
    have h := HR.out
    refine ⟨by rw [shZ_len]; exact h.1, h.2.1, fun r hr => ?_⟩
    obtain ⟨i, hi⟩ := List.getElem?_of_mem hr
    obtain ⟨s, hs, e1, e2⟩ := shZ_row m v _ i r hi
    have h2 := h.2.2 s (List.mem_of_getElem? hs)
    refine ⟨e1.trans h2.1, fun x hx => ?_⟩
    have hv := HV.out
    have h20 := HM20.out s (List.mem_of_getElem? hs)
    rcases e2 x hx with h3 | ⟨y, h3, rfl⟩
    · exact h2.2 x h3
    · have := h20 y h3; omega) (by rw [shZ_len]; exact HML.out) (by have := HK3.out; omega) (fun r hr x hx => by
    obtain ⟨i, hi⟩ := List.getElem?_of_mem hr
    obtain ⟨s, hs, e1, e2⟩ := shZ_row m v _ i r hi
    have hv := HV.out
    have h20 := HM20.out s (List.mem_of_getElem? hs)
    rcases e2 x hx with h3 | ⟨y, h3, rfl⟩
    · have := h20 x h3; omega
    · have := h20 y h3; omega))
  rw [shZ_len] at HDe
  have HCN := Lib.hid (fun (W : World) (hW : Kp w5 W) => containsI a5 Y c5 20 #[.pointer (some ⟨w.heap.size, 0, none⟩)] W (fun x => hasX x.pl (intD v).iv) lY (hY.kp hW) ⟨fun _ _ => by kernel_rfl, fun x hx w1' k1' => eig1_any x v w.heap.size w1' ((hY.rdI hx).kp (hW.trans k1')) (vY x hx) HV.out (((HKC.out.trans hW).trans k1').cell HCB.out)⟩)
  have HAny := Lib.hid (show detZ (shZ m v m.length) = 0 → Y.any (fun x => hasX x.pl (intD v).iv) = true from fun hd => by
    have hd2 : detZ (shZ m v k) = 0 := by rw [← HML.out]; exact hd
    obtain ⟨i, r, hi, hh⟩ := eig_has HR.out HML.out (by have := HK3.out; omega) HM20.out hd2
    have him := (List.getElem?_eq_some_iff.1 hi).1
    obtain ⟨y, hy⟩ : ∃ y, Y[i]? = some y := ⟨_, List.getElem?_eq_getElem (by omega)⟩
    have h1 : (plR Y)[i]? = ((List.range k).map fun i => dscF 64 ((m.getD i []).map fun n => pnI n n) i)[i]? := by rw [pY]
    unfold plR at h1
    rw [List.getElem?_map, List.getElem?_map, hy, List.getElem?_range (by have := HML.out; omega)] at h1
    have he : m.getD i [] = r := by rw [List.getD_eq_getElem?_getD, hi]; rfl
    have h2 : y.pl = dscF 64 (r.map fun n => pnI n n) i := by rw [← he]; exact Option.some.inj h1
    exact List.any_eq_true.2 ⟨y, List.mem_of_getElem? hy, by rw [h2]; exact hh⟩)
  clear hY pY vY k5 HDi HG4 hYl
  go_wp2_with fail
  go_fit HDe.out
  rintro e w6 ⟨rfl, k6⟩
  by_cases hd : detZ (shZ m v m.length) = 0
  rotate_left
  · have hdn : (detZ (shZ m v m.length) != 0) = true := by rw [bne, beq_eq_false_iff_ne.2 hd]; rfl
    clear hd
    go_wp2_with fail
    go_ret
    exact ⟨rfl, HKW.out.trans (HKC.out.trans k6)⟩
  have HA := Lib.hid (HAny.out hd)
  have HC := Lib.hid (HCN.out w6 k6)
  rw [HA.out] at HC
  rw [hd]
  clear hd
  go_wp2_with fail
  go_fit HC.out
  rintro e w7 ⟨rfl, k7⟩
  go_wp2_with fail
  go_ret
  exact ⟨rfl, HKW.out.trans (HKC.out.trans (k6.trans k7))⟩
end Go.Proofs.YtpocjagbhiahdaaGreatDoor
