/-
  Walks: the eighth reference's disc.
-/
import Derived.Deep.CutRange
import Derived.Deep.DeepFit
import Derived.Deep.LoopGhost
import Derived.Deep.RegionHeld3
import Derived.Test.YtpocjagbhiahdaaGreatDoorMDscM
import Derived.Test.YtpocjagbhiahdaaGreatDoorMR7N
import Derived.Test.YtpocjagbhiahdaaGreatDoorMR3A
namespace Go.Proofs.YtpocjagbhiahdaaGreatDoor
open Go.RowKit

theorem set73x {w : World} {g b b2 : Nat} (n : b ≠ g) (n2 : b2 ≠ g) {p0 p1 p2 p3 p4 p5 p6 q0 q1 q2 : Nat} {v0 v1 v2 v3 v4 v5 v6 u0 u1 u2 x0 x1 x2 : Value}
    (h : (w.cell? ⟨b, p0, none⟩ = some v0 ∧ w.cell? ⟨b, p1, none⟩ = some v1 ∧ w.cell? ⟨b, p2, none⟩ = some v2 ∧ w.cell? ⟨b, p3, none⟩ = some v3 ∧ w.cell? ⟨b, p4, none⟩ = some v4 ∧ w.cell? ⟨b, p5, none⟩ = some v5 ∧ w.cell? ⟨b, p6, none⟩ = some v6) ∧ w.cell? ⟨b2, q0, none⟩ = some u0 ∧ w.cell? ⟨b2, q1, none⟩ = some u1 ∧ w.cell? ⟨b2, q2, none⟩ = some u2) :
    (fun W : World => (W.cell? ⟨b, p0, none⟩ = some v0 ∧ W.cell? ⟨b, p1, none⟩ = some v1 ∧ W.cell? ⟨b, p2, none⟩ = some v2 ∧ W.cell? ⟨b, p3, none⟩ = some v3 ∧ W.cell? ⟨b, p4, none⟩ = some v4 ∧ W.cell? ⟨b, p5, none⟩ = some v5 ∧ W.cell? ⟨b, p6, none⟩ = some v6) ∧ W.cell? ⟨b2, q0, none⟩ = some u0 ∧ W.cell? ⟨b2, q1, none⟩ = some u1 ∧ W.cell? ⟨b2, q2, none⟩ = some u2)
      (((w.setCell ⟨g, 0, none⟩ x0).setCell ⟨g, 1, none⟩ x1).setCell ⟨g, 2, none⟩ x2) := by
  have ne (i j : Nat) : (⟨g, i, none⟩ : Addr) ≠ ⟨b, j, none⟩ := fun e => n (by injection e with e1; exact e1.symm)
  have ne2 (i j : Nat) : (⟨g, i, none⟩ : Addr) ≠ ⟨b2, j, none⟩ := fun e => n2 (by injection e with e1; exact e1.symm)
  have key (j : Nat) : (((w.setCell ⟨g, 0, none⟩ x0).setCell ⟨g, 1, none⟩ x1).setCell ⟨g, 2, none⟩ x2).cell? ⟨b, j, none⟩ = w.cell? ⟨b, j, none⟩ := by
    rw [cell_set_ne (ne 2 j), cell_set_ne (ne 1 j), cell_set_ne (ne 0 j)]
  have key2 (j : Nat) : (((w.setCell ⟨g, 0, none⟩ x0).setCell ⟨g, 1, none⟩ x1).setCell ⟨g, 2, none⟩ x2).cell? ⟨b2, j, none⟩ = w.cell? ⟨b2, j, none⟩ := by
    rw [cell_set_ne (ne2 2 j), cell_set_ne (ne2 1 j), cell_set_ne (ne2 0 j)]
  simp only [key, key2]
  exact h
set_option maxRecDepth 100000 in
set_option maxHeartbeats 8000000 in
theorem r8disc_any (r : List RI) (a : Option Addr) (c i q : Nat) (w : World) (hr : RowI w a r) (hl : r.length ≤ 8) (hv : ∀ x ∈ r, x.vl = true) (hi : i < r.length) (h0 : 8 ≤ q) (h1 : q ≤ 512) :
    Calls Tryz.prog 55 #[.slice a r.length c, .int .i64 (i : Int), .int .i64 (q : Int)] w (IvOut w (dscF q (plR r) i)) := by
  have HR := Lib.hid hr
  have HV := Lib.hid hv
  obtain ⟨x, hx⟩ : ∃ x, r[i]? = some x := ⟨_, List.getElem?_eq_getElem hi⟩
  obtain ⟨b3, o3, e3, hxr, hx7⟩ := hr i x hx
  subst e3
  have HX := Lib.hid (And.intro hx (And.intro hxr (hv x (List.mem_of_getElem? hx))))
  have HX7 := Lib.hid hx7
  have hb3 : b3 < w.heap.size := World.block_lt_of_cell? w _ hx7.1
  obtain ⟨D, hD⟩ : ∃ D, D = dscF q (plR r) i := ⟨_, rfl⟩
  have HD := Lib.hid (show dscO q x.pl (dscS q i ((plR r).drop 0) 0 .zero) = D by
    have e : (plR r).getD i .whole = x.pl := by rw [List.getD_eq_getElem?_getD]; simp [plR, hx]
    rw [List.drop_zero, hD, dscF_O, e])
  rw [← hD]
  have hi1 : (0 : Int) ≤ (i : Int) := by omega
  have hi2 : (i : Int) < (r.length : Int) := by omega
  clear hr hv hD hx hxr hx7
  go_enter Tryz.func55, Tryz.ntmps55
  go_upto_region 1 with fail
  generalize hW : w.alloc _ = V at *
  have hkV : Kp w V := hW ▸ (Kp.refl w).alloc _
  have hRes : Var7 V w.heap.size := by rw [← hW]; exact Var7.new w _
  clear hW
  have HKV := Lib.hid hkV
  have HRES := Lib.hid hRes
  have hb3V : b3 < V.heap.size := by have := hkV.size; omega
  clear hkV hRes
  go_upto_region 2 with fail
  generalize hW2 : World.alloc V _ = W2 at *
  have hk2 : Kp V W2 := hW2 ▸ (Kp.refl V).alloc _
  have hY : BoxD W2 V.heap.size rdZero := by rw [← hW2]; exact Box3.new _ _ _ _ _
  clear hW2
  go_wp2_with fail
  go_loopg [8] r.length (fun n v wr => ∃ (k : Nat) (s : RD), k + n = r.length ∧ v = .int .i64 (k : Int) ∧ Kp V wr ∧ BoxD wr V.heap.size s ∧ s.ok wr ∧ 0 ≤ s.dy.iv ∧ dscO q x.pl (dscS q i ((plR r).drop k) k s.dy) = D ∧ ∀ j y, j < k → r[j]? = some y → y.all = false)
  case atStart => exact ⟨0, rdZero, by omega, rfl, hk2, hY, ⟨rdZero_rd _, rdZero_vl⟩, by show 0 ≤ Dy.iv .zero; exact Int.le_of_eq (Dy.iv_eq_zero.2 rfl).symm, HD.out, fun j y h => absurd h (Nat.not_lt_zero _)⟩
  case round =>
  obtain ⟨k, s, hkn, rfl, hks, hS, hso, hsp, hC, hna⟩ := hrel
  have HC := Lib.hid (And.intro hC (And.intro hsp hna))
  have HSo := Lib.hid hso
  clear hC hso hY hk2 hsp hna
  by_cases hlt2 : k < r.length
  · obtain ⟨y, hy⟩ : ∃ y, r[k]? = some y := ⟨_, List.getElem?_eq_getElem hlt2⟩
    obtain ⟨b4, o4, e4, hrd, s0, s1, s2, s3, s4, s5, s6⟩ := (HR.out.kp (HKV.out.trans hks)) k y hy
    cases e4
    have Hy := Lib.hid hy
    have HY := Lib.hid (And.intro hrd (HV.out y (List.mem_of_getElem? hy)))
    have hj1 : (0 : Int) ≤ (k : Int) := by omega
    have hj2 : (k : Int) < (r.length : Int) := by omega
    have Hkn := Lib.hid (And.intro hkn hlt2)
    have HS9 := Lib.hid hS
    clear hy hrd hkn hS
    cases hya : y.all with
    | true =>
      have HE := Lib.hid (show D = .whole from (HC.out.1.symm.trans (by rw [dscS_all Hy.out hya]; rfl)))
      rw [hya] at s6
      clear hya
      go_wp2_with fail
      go_fit (r5Whole_any _)
      rintro e w5 ⟨rfl, k5⟩
      have hBz := HRES.out.kp (hks.trans k5)
      have hkz := HKV.out.trans (hks.trans k5)
      clear s0 s1 s2 s3 s4 s5 s6
      obtain ⟨⟨q0, q1, q2, q3, q4, q5, q6⟩, f0, f1, f2, f3, f4, f5, f6⟩ := id hBz
      go_wp2_with fail
      generalize hW9 : ((((((w5.setCell _ _).setCell _ _).setCell _ _).setCell _ _).setCell _ _).setCell _ _).setCell _ _ = W12
      obtain ⟨⟨s0, s1, s2, s3, s4, s5, s6⟩, hU⟩ := stored7 (show Box7 w5 _ _ _ _ _ _ _ _ from ⟨q0, q1, q2, q3, q4, q5, q6⟩) (fun _ h => by cases h) (fun _ h => by cases h) (fun _ h => by cases h) (fun _ h => by cases h) (fun _ h => by cases h) (fun _ h => by cases h) (fun _ h => by cases h) _ _ _ _ _ _ _ hW9
      clear hW9 q0 q1 q2 q3 q4 q5 q6 f0 f1 f2 f3 f4 f5 f6
      refine bodyPost_ret (v := .agg #[.bool false, .slice none 0 0, .int .i64 0, .bool false, .slice none 0 0, .int .i64 0, .bool true]) (by simp [results, Tryz.results55, go_sem, s0, s1, s2, s3, s4, s5, s6]) rfl ?_
      rw [HE.out]
      exact ⟨wholeR, rfl, wholeR_rd _, rfl, rfl, hU.2.2.1 _ hkz (by omega)⟩
    | false =>
    have Hya := Lib.hid hya
    rw [hya] at s6
    have Hna := Lib.hid (show ∀ j z, j < k + 1 → r[j]? = some z → z.all = false from fun j z hj hz => by
      rcases Nat.lt_succ_iff_lt_or_eq.1 hj with h | h
      · exact HC.out.2.2 j z h hz
      · subst h
        rw [Hy.out] at hz
        cases hz
        exact hya)
    clear hya
    by_cases hki : k = i
    · have g1 : ((k : Int) != (i : Int)) = false := by rw [hki]; simp
      have HC2 := Lib.hid (show dscO q x.pl (dscS q i ((plR r).drop (k + 1)) (k + 1) s.dy) = D by rw [← dscS_at Hy.out Hya.out hki]; exact HC.out.1)
      clear hki
      go_wp2_with fail
      go_roundg (gk - 1)
      case rel => exact ⟨k + 1, s, by have := Hkn.out; omega, by go_num, hks, HS9.out, HSo.out, HC.out.2.1, HC2.out, Hna.out⟩
      case measure => have := Hkn.out; omega
    have g1 : ((k : Int) != (i : Int)) = true := by rw [bne, beq_eq_false_iff_ne.2 (by omega)]; rfl
    have Hki := Lib.hid hki
    obtain ⟨E, hE⟩ : ∃ E, E = adP s.dy (magP y.pl) q true := ⟨_, rfl⟩
    have HEo := Lib.hid (show E.1.ok by rw [hE]; exact adP_ok _ _ h0 h1 _)
    have HE0 := Lib.hid (show E.2 = 0 → dscO q x.pl (dscS q i ((plR r).drop (k + 1)) (k + 1) E.1) = D ∧ 0 ≤ E.1.iv from fun he => ⟨by
      rw [hE, ← dscS_next Hy.out Hya.out hki (by rw [← hE]; exact he)]; exact HC.out.1, by
      have h3 := adP_upS (a := s.dy) (b := magP y.pl) h0 h1 (by rw [← hE]; exact he)
      have := magP_pos y.pl
      have := HC.out.2.1
      rw [← hE] at h3
      omega⟩)
    have HE1 := Lib.hid (show E.2 ≠ 0 → D = .whole from fun he => HC.out.1.symm.trans (by rw [dscS_err Hy.out Hya.out hki (by rw [← hE]; exact he)]; rfl))
    have HAD := Lib.hid (fun (W : World) (n : RD) (dn : n.dy = magP y.pl) (on : n.ok W) (os : s.ok W) => by
      have h := r3add_ok s n h0 h1 true W os on
      rw [dn, ← hE] at h
      exact h)
    have HYO := Lib.hid (ok_of HY.out.1 HY.out.2 Hya.out)
    have HMG := Lib.hid (fun (W : World) (k : Kp wr W) => by
      have h := r5mag_any y W (HYO.out.kp k)
      rw [Hya.out] at h
      exact h)
    have HMO := Lib.hid (magP_ok (RI.pl_ok HY.out.1 HY.out.2))
    have hb4 := World.block_lt_of_cell? wr _ s0
    have hVr : V.heap.size < wr.heap.size := World.block_lt_of_cell? wr _ HS9.out.1
    have N1 := Lib.hid hb4
    have N2 := Lib.hid hVr
    have hPC := Lib.hid (show (_ ∧ _ ∧ _ ∧ _ ∧ _ ∧ _ ∧ _) ∧ wr.cell? ⟨V.heap.size, 0, none⟩ = some (.bool s.neg) ∧ wr.cell? ⟨V.heap.size, 1, none⟩ = some (.slice s.a s.xs.length s.c) ∧ wr.cell? ⟨V.heap.size, 2, none⟩ = some (.int .i64 s.e) from ⟨⟨s0, s1, s2, s3, s4, s5, s6⟩, HS9.out.1, HS9.out.2.1, HS9.out.2.2.1⟩)
    clear hki hE s0 s1 s2 s3 s4 s5
    obtain ⟨W4, hW4⟩ : ∃ X : World, X = wr := ⟨_, rfl⟩
    subst hW4
    go_upto_region 8 with fail
    clear s6
    go_cut [9, 10] from 31 to 41 (fun s0 t0 wx => ∃ (b1 : Nat) (z : RD), s0 = .pointer (some ⟨b1, 0, none⟩) ∧ t0 = .int .i64 E.2 ∧ HasD W4 wx b1 z E.1)
    case first =>
      have KJ := Lib.hid (Kp.refl W4).drew
      have KZ := Lib.hid (show Kp W4 (W4.alloc (.cells #[.bool false, .slice none 0 0, .int .i64 0] 42)).drew from ((Kp.refl W4).alloc _).drew)
      have BZ := Lib.hid (show Box3 (W4.alloc (.cells #[.bool false, .slice none 0 0, .int .i64 0] 42)).drew W4.heap.size _ _ _ ∧ W4.heap.size ≤ W4.heap.size from ⟨Box3.new W4.drew _ _ _ _, Nat.le_refl _⟩)
      have hSd := keep73 KJ.out hPC.out
      have HSZ2 := Lib.hid (keep73 KZ.out hPC.out)
      go_region_held3 (fun w' => (w'.cell? ⟨b3, o3 + k * 7, none⟩ = some (.bool y.lo.neg) ∧ w'.cell? ⟨b3, o3 + k * 7 + 1, none⟩ = some (.slice y.lo.a y.lo.xs.length y.lo.c) ∧ w'.cell? ⟨b3, o3 + k * 7 + 2, none⟩ = some (.int .i64 y.lo.e) ∧ w'.cell? ⟨b3, o3 + k * 7 + 3, none⟩ = some (.bool y.hi.neg) ∧ w'.cell? ⟨b3, o3 + k * 7 + 4, none⟩ = some (.slice y.hi.a y.hi.xs.length y.hi.c) ∧ w'.cell? ⟨b3, o3 + k * 7 + 5, none⟩ = some (.int .i64 y.hi.e) ∧ w'.cell? ⟨b3, o3 + k * 7 + 6, none⟩ = some (.bool false)) ∧ w'.cell? ⟨V.heap.size, 0, none⟩ = some (.bool s.neg) ∧ w'.cell? ⟨V.heap.size, 1, none⟩ = some (.slice s.a s.xs.length s.c) ∧ w'.cell? ⟨V.heap.size, 2, none⟩ = some (.int .i64 s.e)) (first | with_reducible assumption | with_reducible exact keep73 (by assumption) (by assumption) | with_reducible exact keep73 ((Kp.refl _).alloc _) (by assumption) | with_reducible exact set73x (Nat.ne_of_lt (Nat.lt_of_lt_of_le N1.out BF.out.2)) (Nat.ne_of_lt (Nat.lt_of_lt_of_le N2.out BF.out.2)) (by assumption) | with_reducible exact HSZ2.out | fail)
        (first
          | (go_at_call 93; (with_reducible refine (HMG.out _ ?hk).mono ?_)
             (case hk => first | with_reducible exact KJ.out | with_reducible exact KJ.out.alloc _ | with_reducible exact KZ.out | fail)
             rintro e v1 ⟨n, rfl, rn, dn, vn, j1⟩
             have ON := Lib.hid (And.intro (show n.ok v1 from ⟨rn, vn HMO.out⟩) (show n.dy = magP y.pl from dn))
             clear rn dn vn
             (first | (replace BF := Lib.hid (And.intro (BF.out.1.kp j1) BF.out.2)) | (have BF := Lib.hid (And.intro (BZ.out.1.kp j1) BZ.out.2)) | (have BF := Lib.hid (And.intro ((Box3.new _ (.bool false) (.slice none 0 0) (.int .i64 0) 42).kp j1) KJ.out.size)) | skip)
             (first | (replace KJ := Lib.hid (KJ.out.trans j1)) | (replace KJ := Lib.hid (KZ.out.trans j1)) | (replace KJ := Lib.hid (KJ.out.trans (((Kp.refl _).alloc _).trans j1))) | fail)
             have hSn := keep73 KJ.out hPC.out)
          | (go_at_call 45; (with_reducible refine (HAD.out _ n ON.out.2 ?hn (HSo.out.kp ?hk)).mono ?_)
             (case hn => first | with_reducible exact ON.out.1 | with_reducible exact ON.out.1.kp ((Kp.refl _).alloc _) | fail)
             (case hk => first | with_reducible exact KJ.out | with_reducible exact KJ.out.alloc _ | with_reducible exact KZ.out | fail)
             rintro e v3 ⟨z, rfl, zr, zd, zv, j1⟩
             have OZ := Lib.hid (And.intro (show z.ok v3 from ⟨zr, zv HEo.out⟩) (show z.dy = E.1 from zd))
             clear zr zd zv
             (first | (replace BF := Lib.hid (And.intro (BF.out.1.kp j1) BF.out.2)) | (have BF := Lib.hid (And.intro (BZ.out.1.kp j1) BZ.out.2)) | (have BF := Lib.hid (And.intro ((Box3.new _ (.bool false) (.slice none 0 0) (.int .i64 0) 42).kp j1) KJ.out.size)) | skip)
             (first | (replace KJ := Lib.hid (KJ.out.trans j1)) | (replace KJ := Lib.hid (KZ.out.trans j1)) | (replace KJ := Lib.hid (KJ.out.trans (((Kp.refl _).alloc _).trans j1))) | fail)
             have hSn := keep73 KJ.out hPC.out
             try (obtain ⟨q0, q1, q2, f0, f1, f2⟩ := id BF.out.1))
          | fail)
      all_goals
        go_wp2_with fail
        go_meet
        case rel => first
          | exact ⟨_, z, rfl, rfl, hasD_store BF.out.1 (fun _ h => by cases h) (fun _ h => by cases h) (fun _ h => by cases h) OZ.out.1 OZ.out.2 KJ.out BF.out.2⟩
          | exact ⟨_, z, rfl, rfl, hasD_alloc OZ.out.1 OZ.out.2 KJ.out _⟩
    case rest =>
    obtain ⟨b1, z, rfl, rfl, hD1⟩ := hcut
    obtain ⟨W6, hW6⟩ : ∃ X : World, X = wc := ⟨_, rfl⟩
    subst hW6
    obtain ⟨hz3, hzo, hzd, hkz6, hbz⟩ := hD1
    have hSC := HS9.out.kp hkz6
    have hKC := hks.trans hkz6
    have O2 := Lib.hid hzo
    have D2 := Lib.hid hzd
    clear hzo hzd hkz6 hbz hPC HAD hb4 hVr HS9 hks
    by_cases he : E.2 = 0
    · have HE2 := Lib.hid (HE0.out he)
      rw [he]
      clear he HE0 HE1
      obtain ⟨m0, m1, m2⟩ := hz3
      obtain ⟨q0, q1, q2, f0, f1, f2⟩ := id hSC
      go_wp2_with fail
      go_roundg (gk - 1)
      case measure => have := Hkn.out; omega
      case rel =>
      generalize hW9 : (((W6.setCell _ _).setCell _ _).setCell _ _) = W9
      obtain ⟨hN, hU⟩ := BoxD.store hSC z hW9
      exact ⟨k + 1, z, by have := Hkn.out; omega, by go_num, hU.2.2.1 _ hKC (Nat.le_refl _), hN, hU.okD O2.out, by rw [D2.out]; exact HE2.out.2, by rw [D2.out]; exact HE2.out.1, Hna.out⟩
    have HE := Lib.hid (HE1.out he)
    have g2 : (E.2 != 0) = true := by rw [bne, beq_eq_false_iff_ne.2 he]; rfl
    have g3 : (E.2 == 0) = false := beq_eq_false_iff_ne.2 he
    clear he HE0 HE1 hz3 hSC
    go_wp2_with fail
    go_fit (r5Whole_any _)
    rintro e w5 ⟨rfl, k5⟩
    have hBz := HRES.out.kp (hKC.trans k5)
    have hkz := HKV.out.trans (hKC.trans k5)
    obtain ⟨⟨q0, q1, q2, q3, q4, q5, q6⟩, f0, f1, f2, f3, f4, f5, f6⟩ := id hBz
    go_wp2_with fail
    generalize hW9 : ((((((w5.setCell _ _).setCell _ _).setCell _ _).setCell _ _).setCell _ _).setCell _ _).setCell _ _ = W12
    obtain ⟨⟨s0, s1, s2, s3, s4, s5, s6⟩, hU⟩ := stored7 (show Box7 w5 _ _ _ _ _ _ _ _ from ⟨q0, q1, q2, q3, q4, q5, q6⟩) (fun _ h => by cases h) (fun _ h => by cases h) (fun _ h => by cases h) (fun _ h => by cases h) (fun _ h => by cases h) (fun _ h => by cases h) (fun _ h => by cases h) _ _ _ _ _ _ _ hW9
    clear hW9 q0 q1 q2 q3 q4 q5 q6 f0 f1 f2 f3 f4 f5 f6
    refine bodyPost_ret (v := .agg #[.bool false, .slice none 0 0, .int .i64 0, .bool false, .slice none 0 0, .int .i64 0, .bool true]) (by simp [results, Tryz.results55, go_sem, s0, s1, s2, s3, s4, s5, s6]) rfl ?_
    rw [HE.out]
    exact ⟨wholeR, rfl, wholeR_rd _, rfl, rfl, hU.2.2.1 _ hkz (by omega)⟩
  have HC3 := Lib.hid (show dscO q x.pl (some s.dy) = D by
    have := HC.out.1
    rw [dscS_done (by omega)] at this
    exact this)
  have HSP := Lib.hid HC.out.2.1
  have HXA := Lib.hid (show x.all = false from HC.out.2.2 i x (by omega) HX.out.1)
  clear HC
  obtain ⟨W4, hW4⟩ : ∃ X : World, X = wr := ⟨_, rfl⟩
  subst hW4
  have HKS := Lib.hid hks
  have HKW := Lib.hid (HKV.out.trans hks)
  have HPX := Lib.hid (keep7 HKW.out HX7.out)
  have HPM := Lib.hid (show W4.cell? ⟨V.heap.size, 0, none⟩ = some (.bool s.neg) ∧ W4.cell? ⟨V.heap.size, 1, none⟩ = some (.slice s.a s.xs.length s.c) ∧ W4.cell? ⟨V.heap.size, 2, none⟩ = some (.int .i64 s.e) from ⟨hS.1, hS.2.1, hS.2.2.1⟩)
  have N1 := Lib.hid (show b3 < W4.heap.size by have := HKW.out.size; omega)
  have N2 := Lib.hid (show V.heap.size < W4.heap.size from World.block_lt_of_cell? W4 _ hS.1)
  have OX := Lib.hid (show x.ok W4 from ok_of (HX.out.2.1.kp HKW.out) HX.out.2.2 HXA.out)
  have HXP := Lib.hid (RI.pl_ok HX.out.2.1 HX.out.2.2)
  obtain ⟨L, hL⟩ : ∃ L, L = adP x.lo.dy s.dy.opp q false := ⟨_, rfl⟩
  obtain ⟨H, hH⟩ : ∃ H, H = adP x.hi.dy s.dy q true := ⟨_, rfl⟩
  have HLok := Lib.hid (show L.1.ok by rw [hL]; exact adP_ok _ _ h0 h1 _)
  have HHok := Lib.hid (show H.1.ok by rw [hH]; exact adP_ok _ _ h0 h1 _)
  have HM := Lib.hid (show D = mkI L H by rw [← HC3.out, hL, hH]; rfl)
  have HLE := Lib.hid (show L.2 = 0 → H.2 = 0 → L.1.iv ≤ H.1.iv by rw [hL, hH]; exact dscO_le HXP.out h0 h1 HSP.out)
  have HAD := Lib.hid (fun (W : World) (n : RD) (dn : n.dy = s.dy.opp) (on : n.ok W) (k : Kp W4 W) => by
    have h := r3add_ok x.lo n h0 h1 false W (OX.out.lo.kp k) on
    rw [dn, ← hL] at h
    exact h)
  have HAU0 := Lib.hid (fun (W : World) (k : Kp W4 W) => by
    have h := r3add_ok x.hi s h0 h1 true W (OX.out.hi.kp k) (HSo.out.kp k)
    rw [← hH] at h
    exact h)
  clear hL hH hks hS HC3 HSP hkn hb3 hb3V
  have HDok := Lib.hid HLok.out
  go_upto_region 12 with fail
  go_cut [11, 12] from 46 to 57 (fun s0 t0 wx => ∃ (b1 : Nat) (y : RD), s0 = .pointer (some ⟨b1, 0, none⟩) ∧ t0 = .int .i64 L.2 ∧ HasD W4 wx b1 y L.1)
  case first =>
    have hPC : (W4.cell? ⟨b3, o3 + i * 7, none⟩ = some (.bool x.lo.neg) ∧ W4.cell? ⟨b3, o3 + i * 7 + 1, none⟩ = some (.slice x.lo.a x.lo.xs.length x.lo.c) ∧ W4.cell? ⟨b3, o3 + i * 7 + 2, none⟩ = some (.int .i64 x.lo.e)) ∧ W4.cell? ⟨V.heap.size, 0, none⟩ = some (.bool s.neg) ∧ W4.cell? ⟨V.heap.size, 0 + 1, none⟩ = some (.slice s.a s.xs.length s.c) ∧ W4.cell? ⟨V.heap.size, 0 + 2, none⟩ = some (.int .i64 s.e) := by
      obtain ⟨x0, x1, x2, x3, x4, x5, x6⟩ := HPX.out
      obtain ⟨y0, y1, y2⟩ := HPM.out
      exact ⟨⟨x0, x1, x2⟩, y0, y1, y2⟩
    have HPC := Lib.hid hPC
    have KJ := Lib.hid (Kp.refl W4).drew
    have KZ := Lib.hid (show Kp W4 (W4.alloc (.cells #[.bool false, .slice none 0 0, .int .i64 0] 42)).drew from ((Kp.refl W4).alloc _).drew)
    have BZ := Lib.hid (show Box3 (W4.alloc (.cells #[.bool false, .slice none 0 0, .int .i64 0] 42)).drew W4.heap.size _ _ _ ∧ W4.heap.size ≤ W4.heap.size from ⟨Box3.new W4.drew _ _ _ _, Nat.le_refl _⟩)
    have hSd := keep33 KJ.out hPC
    have HSZ2 := Lib.hid (keep33 KZ.out hPC)
    clear hPC
    go_region_held3 (fun w' => (w'.cell? ⟨b3, o3 + i * 7, none⟩ = some (.bool x.lo.neg) ∧ w'.cell? ⟨b3, o3 + i * 7 + 1, none⟩ = some (.slice x.lo.a x.lo.xs.length x.lo.c) ∧ w'.cell? ⟨b3, o3 + i * 7 + 2, none⟩ = some (.int .i64 x.lo.e)) ∧ w'.cell? ⟨V.heap.size, 0, none⟩ = some (.bool s.neg) ∧ w'.cell? ⟨V.heap.size, 0 + 1, none⟩ = some (.slice s.a s.xs.length s.c) ∧ w'.cell? ⟨V.heap.size, 0 + 2, none⟩ = some (.int .i64 s.e)) (first | with_reducible assumption | with_reducible exact keep33 (by assumption) (by assumption) | with_reducible exact keep33 ((Kp.refl _).alloc _) (by assumption) | with_reducible exact set33x (Nat.ne_of_lt (Nat.lt_of_lt_of_le N1.out BF.out.2)) (Nat.ne_of_lt (Nat.lt_of_lt_of_le N2.out BF.out.2)) (by assumption) | with_reducible exact HSZ2.out | fail)
      (first
        | (go_at_call 46; (with_reducible refine (r2Neg_ok s _ (HSo.out.kp ?hk)).mono ?_)
           (case hk => first | with_reducible exact KJ.out | with_reducible exact KJ.out.alloc _ | with_reducible exact KZ.out | fail)
           rintro e v1 ⟨n, rfl, rn, dn, vn, j1⟩
           have ON := Lib.hid (And.intro (show n.ok v1 from ⟨rn, vn (Dy.opp_ok2 (rdok_dy HSo.out))⟩) (show n.dy = s.dy.opp from dn))
           clear rn dn vn
           (first | (replace BF := Lib.hid (And.intro (BF.out.1.kp j1) BF.out.2)) | (have BF := Lib.hid (And.intro (BZ.out.1.kp j1) BZ.out.2)) | (have BF := Lib.hid (And.intro ((Box3.new _ (.bool false) (.slice none 0 0) (.int .i64 0) 42).kp j1) KJ.out.size)) | skip)
           (first | (replace KJ := Lib.hid (KJ.out.trans j1)) | (replace KJ := Lib.hid (KZ.out.trans j1)) | (replace KJ := Lib.hid (KJ.out.trans (((Kp.refl _).alloc _).trans j1))) | fail)
           have hSn := keep33 KJ.out HPC.out)
        | (go_at_call 45; (with_reducible refine (HAD.out _ n ON.out.2 ?hn ?hk).mono ?_)
           (case hn => first | with_reducible exact ON.out.1 | with_reducible exact ON.out.1.kp ((Kp.refl _).alloc _) | fail)
           (case hk => first | with_reducible exact KJ.out | with_reducible exact KJ.out.alloc _ | with_reducible exact KZ.out | fail)
           rintro e v3 ⟨z, rfl, zr, zd, zv, j1⟩
           have OZ := Lib.hid (And.intro (show z.ok v3 from ⟨zr, zv HDok.out⟩) (show z.dy = _ from zd))
           clear zr zd zv
           (first | (replace BF := Lib.hid (And.intro (BF.out.1.kp j1) BF.out.2)) | (have BF := Lib.hid (And.intro (BZ.out.1.kp j1) BZ.out.2)) | (have BF := Lib.hid (And.intro ((Box3.new _ (.bool false) (.slice none 0 0) (.int .i64 0) 42).kp j1) KJ.out.size)) | skip)
           (first | (replace KJ := Lib.hid (KJ.out.trans j1)) | (replace KJ := Lib.hid (KZ.out.trans j1)) | (replace KJ := Lib.hid (KJ.out.trans (((Kp.refl _).alloc _).trans j1))) | fail)
           have hSn := keep33 KJ.out HPC.out
           try (obtain ⟨q0, q1, q2, f0, f1, f2⟩ := id BF.out.1))
        | fail)
    all_goals
      go_wp2_with fail
      go_meet
      case rel => first
        | exact ⟨_, z, rfl, rfl, hasD_store BF.out.1 (fun _ h => by cases h) (fun _ h => by cases h) (fun _ h => by cases h) OZ.out.1 OZ.out.2 KJ.out BF.out.2⟩
        | exact ⟨_, z, rfl, rfl, hasD_alloc OZ.out.1 OZ.out.2 KJ.out _⟩
  case rest =>
  obtain ⟨b1, y, rfl, rfl, hD1⟩ := hcut
  obtain ⟨W8, hW8⟩ : ∃ X : World, X = wc := ⟨_, rfl⟩
  subst hW8
  have k8 := hD1.2.2.2.1
  have HD1 := Lib.hid hD1
  replace HPX := Lib.hid (keep7 k8 HPX.out)
  replace HPM := Lib.hid (keep3 k8 HPM.out)
  replace N1 := Lib.hid (Nat.lt_of_lt_of_le N1.out k8.size)
  replace N2 := Lib.hid (Nat.lt_of_lt_of_le N2.out k8.size)
  have HAU := Lib.hid (fun (W : World) (k : Kp W8 W) => HAU0.out W (k8.trans k))
  have HKS8 := Lib.hid (HKS.out.trans k8)
  replace HDok := Lib.hid HHok.out
  clear hD1 k8 HAD HAU0
  go_upto_region 13 with fail
  go_cut [13, 14] from 58 to 68 (fun s0 t0 wx => ∃ (b1 : Nat) (y : RD), s0 = .pointer (some ⟨b1, 0, none⟩) ∧ t0 = .int .i64 H.2 ∧ HasD W8 wx b1 y H.1)
  case first =>
    have hPC : (W8.cell? ⟨b3, o3 + i * 7 + 3, none⟩ = some (.bool x.hi.neg) ∧ W8.cell? ⟨b3, o3 + i * 7 + 3 + 1, none⟩ = some (.slice x.hi.a x.hi.xs.length x.hi.c) ∧ W8.cell? ⟨b3, o3 + i * 7 + 3 + 2, none⟩ = some (.int .i64 x.hi.e)) ∧ W8.cell? ⟨V.heap.size, 0, none⟩ = some (.bool s.neg) ∧ W8.cell? ⟨V.heap.size, 0 + 1, none⟩ = some (.slice s.a s.xs.length s.c) ∧ W8.cell? ⟨V.heap.size, 0 + 2, none⟩ = some (.int .i64 s.e) := by
      obtain ⟨x0, x1, x2, x3, x4, x5, x6⟩ := HPX.out
      obtain ⟨y0, y1, y2⟩ := HPM.out
      exact ⟨⟨x3, x4, x5⟩, y0, y1, y2⟩
    have HPC := Lib.hid hPC
    have KJ := Lib.hid (Kp.refl W8).drew
    have KZ := Lib.hid (show Kp W8 (W8.alloc (.cells #[.bool false, .slice none 0 0, .int .i64 0] 42)).drew from ((Kp.refl W8).alloc _).drew)
    have BZ := Lib.hid (show Box3 (W8.alloc (.cells #[.bool false, .slice none 0 0, .int .i64 0] 42)).drew W8.heap.size _ _ _ ∧ W8.heap.size ≤ W8.heap.size from ⟨Box3.new W8.drew _ _ _ _, Nat.le_refl _⟩)
    have hSd := keep33 KJ.out hPC
    have HSZ2 := Lib.hid (keep33 KZ.out hPC)
    clear hPC
    go_region_held3 (fun w' => (w'.cell? ⟨b3, o3 + i * 7 + 3, none⟩ = some (.bool x.hi.neg) ∧ w'.cell? ⟨b3, o3 + i * 7 + 3 + 1, none⟩ = some (.slice x.hi.a x.hi.xs.length x.hi.c) ∧ w'.cell? ⟨b3, o3 + i * 7 + 3 + 2, none⟩ = some (.int .i64 x.hi.e)) ∧ w'.cell? ⟨V.heap.size, 0, none⟩ = some (.bool s.neg) ∧ w'.cell? ⟨V.heap.size, 0 + 1, none⟩ = some (.slice s.a s.xs.length s.c) ∧ w'.cell? ⟨V.heap.size, 0 + 2, none⟩ = some (.int .i64 s.e)) (first | with_reducible assumption | with_reducible exact keep33 (by assumption) (by assumption) | with_reducible exact keep33 ((Kp.refl _).alloc _) (by assumption) | with_reducible exact set33x (Nat.ne_of_lt (Nat.lt_of_lt_of_le N1.out BF.out.2)) (Nat.ne_of_lt (Nat.lt_of_lt_of_le N2.out BF.out.2)) (by assumption) | with_reducible exact HSZ2.out | fail)
      (first
        | (go_at_call 45; (with_reducible refine (HAU.out _ ?hk).mono ?_)
           (case hk => first | with_reducible exact KJ.out | with_reducible exact KJ.out.alloc _ | with_reducible exact KZ.out | fail)
           rintro e v3 ⟨z, rfl, zr, zd, zv, j1⟩
           have OZ := Lib.hid (And.intro (show z.ok v3 from ⟨zr, zv HDok.out⟩) (show z.dy = _ from zd))
           clear zr zd zv
           (first | (replace BF := Lib.hid (And.intro (BF.out.1.kp j1) BF.out.2)) | (have BF := Lib.hid (And.intro (BZ.out.1.kp j1) BZ.out.2)) | (have BF := Lib.hid (And.intro ((Box3.new _ (.bool false) (.slice none 0 0) (.int .i64 0) 42).kp j1) KJ.out.size)) | skip)
           (first | (replace KJ := Lib.hid (KJ.out.trans j1)) | (replace KJ := Lib.hid (KZ.out.trans j1)) | (replace KJ := Lib.hid (KJ.out.trans (((Kp.refl _).alloc _).trans j1))) | fail)
           have hSn := keep33 KJ.out HPC.out
           try (obtain ⟨q0, q1, q2, f0, f1, f2⟩ := id BF.out.1))
        | fail)
    all_goals
      go_wp2_with fail
      go_meet
      case rel => first
        | exact ⟨_, z, rfl, rfl, hasD_store BF.out.1 (fun _ h => by cases h) (fun _ h => by cases h) (fun _ h => by cases h) OZ.out.1 OZ.out.2 KJ.out BF.out.2⟩
        | exact ⟨_, z, rfl, rfl, hasD_alloc OZ.out.1 OZ.out.2 KJ.out _⟩
  case rest =>
  obtain ⟨b2, t, rfl, rfl, hD2⟩ := hcut
  obtain ⟨W9, hW9⟩ : ∃ X : World, X = wc := ⟨_, rfl⟩
  subst hW9
  have k9 := hD2.2.2.2.1
  have HD1 := Lib.hid (HD1.out.kp k9)
  have HD2 := Lib.hid hD2
  have hKS9 := HKS8.out.trans k9
  have hBz := HRES.out.kp hKS9
  have hkz := HKV.out.trans hKS9
  clear hD2 k9 HAU HPX HPM HKS8 hKS9
  by_cases hf : L.2 = 0
  rotate_left
  · have g2 : (L.2 != 0) = true := by rw [bne, beq_eq_false_iff_ne.2 hf]; rfl
    have g3 : (L.2 == 0) = false := beq_eq_false_iff_ne.2 hf
    have HE := Lib.hid (show D = .whole by rw [HM.out, mkI_bad (.inl hf)])
    clear hf
    go_wp2_with fail
    go_fit (r5Whole_any _)
    rintro e w5 ⟨rfl, k5⟩
    replace hBz := hBz.kp k5
    replace hkz := hkz.trans k5
    obtain ⟨⟨q0, q1, q2, q3, q4, q5, q6⟩, f0, f1, f2, f3, f4, f5, f6⟩ := id hBz
    go_wp2_with fail
    generalize hW9 : ((((((w5.setCell _ _).setCell _ _).setCell _ _).setCell _ _).setCell _ _).setCell _ _).setCell _ _ = W12
    obtain ⟨⟨s0, s1, s2, s3, s4, s5, s6⟩, hU⟩ := stored7 (show Box7 w5 _ _ _ _ _ _ _ _ from ⟨q0, q1, q2, q3, q4, q5, q6⟩) (fun _ h => by cases h) (fun _ h => by cases h) (fun _ h => by cases h) (fun _ h => by cases h) (fun _ h => by cases h) (fun _ h => by cases h) (fun _ h => by cases h) _ _ _ _ _ _ _ hW9
    clear hW9 q0 q1 q2 q3 q4 q5 q6 f0 f1 f2 f3 f4 f5 f6
    refine bodyPost_ret (v := .agg #[.bool false, .slice none 0 0, .int .i64 0, .bool false, .slice none 0 0, .int .i64 0, .bool true]) (by simp [results, Tryz.results55, go_sem, s0, s1, s2, s3, s4, s5, s6]) rfl ?_
    rw [HE.out]
    exact ⟨wholeR, rfl, wholeR_rd _, rfl, rfl, hU.2.2.1 _ hkz (by omega)⟩
  rw [hf]
  by_cases hg : H.2 = 0
  · rw [hg]
    have HE := Lib.hid (show D = ⟨L.1, H.1, false⟩ by rw [HM.out, mkI_good hf hg])
    have HLE := Lib.hid (HLE.out hf hg)
    clear hf hg
    obtain ⟨m0, m1, m2⟩ := HD1.out.1
    obtain ⟨n0, n1, n2⟩ := HD2.out.1
    obtain ⟨⟨q0, q1, q2, q3, q4, q5, q6⟩, f0, f1, f2, f3, f4, f5, f6⟩ := id hBz
    go_wp2_with fail
    generalize hW9 : ((((((W9.setCell _ _).setCell _ _).setCell _ _).setCell _ _).setCell _ _).setCell _ _).setCell _ _ = W12
    obtain ⟨⟨s0, s1, s2, s3, s4, s5, s6⟩, hU⟩ := stored7 (show Box7 W9 _ _ _ _ _ _ _ _ from ⟨q0, q1, q2, q3, q4, q5, q6⟩) (fun _ h => by cases h) (fun _ h => by cases h) (fun _ h => by cases h) (fun _ h => by cases h) (fun _ h => by cases h) (fun _ h => by cases h) (fun _ h => by cases h) _ _ _ _ _ _ _ hW9
    clear hW9 q0 q1 q2 q3 q4 q5 q6 f0 f1 f2 f3 f4 f5 f6
    refine bodyPost_ret (v := .agg #[.bool (⟨y, t, false⟩ : RI).lo.neg, .slice (⟨y, t, false⟩ : RI).lo.a (⟨y, t, false⟩ : RI).lo.xs.length (⟨y, t, false⟩ : RI).lo.c, .int .i64 (⟨y, t, false⟩ : RI).lo.e, .bool (⟨y, t, false⟩ : RI).hi.neg, .slice (⟨y, t, false⟩ : RI).hi.a (⟨y, t, false⟩ : RI).hi.xs.length (⟨y, t, false⟩ : RI).hi.c, .int .i64 (⟨y, t, false⟩ : RI).hi.e, .bool (⟨y, t, false⟩ : RI).all]) (by simp [results, Tryz.results55, go_sem, s0, s1, s2, s3, s4, s5, s6]) rfl ?_
    rw [HE.out]
    exact ⟨⟨y, t, false⟩, rfl, hU.rdI ⟨HD1.out.2.1.1, HD2.out.2.1.1⟩, by show (⟨y.dy, t.dy, false⟩ : PI) = _; rw [HD1.out.2.2.1, HD2.out.2.2.1], vl_mk2 HD1.out.2.1.2 HD2.out.2.1.2 (by show y.dy.iv ≤ t.dy.iv; rw [HD1.out.2.2.1, HD2.out.2.2.1]; exact HLE.out), hU.2.2.1 _ hkz (by omega)⟩
  have g2 : (H.2 != 0) = true := by rw [bne, beq_eq_false_iff_ne.2 hg]; rfl
  have g3 : (H.2 == 0) = false := beq_eq_false_iff_ne.2 hg
  have HE := Lib.hid (show D = .whole by rw [HM.out, mkI_bad (.inr hg)])
  clear hf hg
  go_wp2_with fail
  go_fit (r5Whole_any _)
  rintro e w5 ⟨rfl, k5⟩
  replace hBz := hBz.kp k5
  replace hkz := hkz.trans k5
  obtain ⟨⟨q0, q1, q2, q3, q4, q5, q6⟩, f0, f1, f2, f3, f4, f5, f6⟩ := id hBz
  go_wp2_with fail
  generalize hW9 : ((((((w5.setCell _ _).setCell _ _).setCell _ _).setCell _ _).setCell _ _).setCell _ _).setCell _ _ = W12
  obtain ⟨⟨s0, s1, s2, s3, s4, s5, s6⟩, hU⟩ := stored7 (show Box7 w5 _ _ _ _ _ _ _ _ from ⟨q0, q1, q2, q3, q4, q5, q6⟩) (fun _ h => by cases h) (fun _ h => by cases h) (fun _ h => by cases h) (fun _ h => by cases h) (fun _ h => by cases h) (fun _ h => by cases h) (fun _ h => by cases h) _ _ _ _ _ _ _ hW9
  clear hW9 q0 q1 q2 q3 q4 q5 q6 f0 f1 f2 f3 f4 f5 f6
  refine bodyPost_ret (v := .agg #[.bool false, .slice none 0 0, .int .i64 0, .bool false, .slice none 0 0, .int .i64 0, .bool true]) (by simp [results, Tryz.results55, go_sem, s0, s1, s2, s3, s4, s5, s6]) rfl ?_
  rw [HE.out]
  exact ⟨wholeR, rfl, wholeR_rd _, rfl, rfl, hU.2.2.1 _ hkz (by omega)⟩
end Go.Proofs.YtpocjagbhiahdaaGreatDoor
