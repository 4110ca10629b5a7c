/-
  Walks: the references' exponent, Scale, Mid.
-/
import Derived.Deep.LoopGhost
import Derived.Deep.DeepFit
import Derived.Test.YtdlpiblgkpgplaaGreatDoorMSmF
import Derived.Test.YtdlpiblgkpgplaaGreatDoorMR2I
import Derived.Test.YtdlpiblgkpgplaaGreatDoorMR3C
import Derived.Test.YtdlpiblgkpgplaaGreatDoorMR7Q
namespace Go.Proofs.YtdlpiblgkpgplaaGreatDoor
open Go.RowKit

theorem r2exponent_any (ex : Int) (w : World) (he : I64 ex) :
    Calls Tryz.prog 131 #[.int .i64 ex] w fun e w' => e = .returned (.bool (expB ex)) ∧ w = w' := by
  obtain ⟨he0, he1⟩ := he
  by_cases h1 : -32768 ≤ ex
  · by_cases h2 : ex ≤ 32768
    · have H := Lib.hid (show expB ex = true from decide_eq_true ⟨h1, h2⟩)
      go_enter Tryz.func131, Tryz.ntmps131
      go_wp2_with fail
      go_ret
      exact ⟨ret_bool (by first | exact H.out.symm | (rw [H.out]; simp; omega)), rfl⟩
    · have H := Lib.hid (show expB ex = false from decide_eq_false (by omega))
      go_enter Tryz.func131, Tryz.ntmps131
      go_wp2_with fail
      go_ret
      exact ⟨ret_bool (by first | exact H.out.symm | (rw [H.out]; simp; omega)), rfl⟩
  · have H := Lib.hid (show expB ex = false from decide_eq_false (by omega))
    go_enter Tryz.func131, Tryz.ntmps131
    go_wp2_with fail
    go_ret
    exact ⟨ret_bool (by first | exact H.out.symm | (rw [H.out]; simp; omega)), rfl⟩
set_option maxHeartbeats 4000000 in
theorem r2half_ok (x : RD) (w : World) (h : x.ok w) :
    Calls Tryz.prog 99 #[.agg #[.bool x.neg, .slice x.a x.xs.length x.c, .int .i64 x.e], .int .i64 (-1)] w (NumE w (halfD x.dy).1 (halfD x.dy).2) := by
  have hlen := rdok_len h
  have he := rdok_e h
  have hE := r2exponent_any (-1)
  rw [show expB (-1) = true from rfl] at hE
  have HE := Lib.hid hE
  clear hE
  have hll := limbs_len_le h.1.1.lt32
  have hcl := canon_len x.neg (val x.xs) (x.e + -1)
  have hce := canon_e x.neg (show -1000000000 ≤ x.e + -1 by omega) (show x.e + -1 ≤ 1000000000 by omega) (show (limbs (val x.xs)).length ≤ 256 by omega)
  have Hok := Lib.hid (halfD_ok x.dy)
  have Hcan := Lib.hid (show chk (canon x.neg (val x.xs) (x.e + -1)) = halfD x.dy from rfl)
  go_enter Tryz.func99, Tryz.ntmps99
  go_wp2_with fail
  generalize hW : ((w.alloc _).alloc _) = W at *
  have hk : Kp w W := hW ▸ ((Kp.refl w).alloc _).alloc _
  have hS : W.cell? ⟨w.heap.size, 0, none⟩ = some (.bool x.neg) ∧ W.cell? ⟨w.heap.size, 1, none⟩ = some (.slice x.a x.xs.length x.c) ∧ W.cell? ⟨w.heap.size, 2, none⟩ = some (.int .i64 x.e) := by rw [← hW]; simp
  have hB : Box3 W (w.heap.size + 1) (.bool false) (.slice none 0 0) (.int .i64 0) := hW ▸ Box3.new2 _ _ _ _ _ _
  clear hW
  refine (r2Valid_rok x _ (h.kp hk)).mono ?_
  rintro e w1 ⟨rfl, hk1⟩
  have hS1 := keep3 hk1 hS
  have hB1 := hB.kp hk1
  have hk2 := hk.trans hk1
  clear hS hk hk1 hB
  go_wp2_with fail
  refine (HE.out _ ⟨by omega, by omega⟩).mono ?_
  rintro e w2 ⟨rfl, rfl⟩
  go_wp2_with fail
  refine (r2Of_any x.neg x.a x.xs x.c _ _ (h.1.1.kp hk2) h.1.2.1 h.1.2.2.1 (by omega) (by omega) (by omega)).mono ?_
  rintro e w2 ⟨a2, c2, rfl, h2, h3, h4, h5⟩
  obtain ⟨D, hD⟩ : ∃ D, D = canon x.neg (val x.xs) (x.e + -1) := ⟨_, rfl⟩
  rw [← hD] at hcl hce h2 h3 ⊢
  have HD := Lib.hid (show chk D = halfD x.dy by rw [hD]; rfl)
  clear hD Hcan
  go_wp2_with fail
  refine (r2Checked_of (rdOf D a2 c2) D _ ⟨h2, h3, h4, by show (limbs D.m).length ≤ _; omega, ⟨by show _ ≤ D.e; omega, by show D.e ≤ _; omega⟩⟩ (rdOf_dy _ _ _) (fun hd => rdOf_vl hd _ _) (by rw [HD.out]; exact Hok.out)).mono ?_
  rw [HD.out]
  generalize halfD x.dy = F at *
  rintro e w3 ⟨z, rfl, rz, hz, vz, h9⟩
  have hk := h5.trans h9
  have hB2 := hB1.kp hk
  have hk2 := hk2.trans hk
  clear hS1 hB1 hk h5 h9 HD
  obtain ⟨q0, q1, q2, f0, f1, f2⟩ := id hB2
  go_wp2_with fail
  generalize hW9 : (((w3.setCell _ _).setCell _ _).setCell _ _) = W9
  obtain ⟨⟨r0, r1, r2, _⟩, hU⟩ := stored3 hB2 (fun _ h => by cases h) (fun _ h => by cases h) (fun _ h => by cases h) _ _ _ hW9
  clear hW9 q0 q1 q2 f0 f1 f2
  refine bodyPost_ret (v := .tuple #[.agg #[.bool z.neg, .slice z.a z.xs.length z.c, .int .i64 z.e], .int .i64 F.2]) (by simp [results, Tryz.results99, go_sem, r0, r1, r2]) rfl ?_
  exact ⟨z, rfl, ⟨hU.2.1 _ _ rz.1, rz.2⟩, hz, vz, hU.2.2.1 _ hk2 (by omega)⟩
set_option maxRecDepth 100000 in
set_option maxHeartbeats 8000000 in
theorem r5Mid_any (x : RI) (p : Nat) (w : World) (hx : x.ok w) (hp0 : 8 ≤ p) (hp1 : p ≤ 512) :
    Calls Tryz.prog 54 #[.agg #[.bool x.lo.neg, .slice x.lo.a x.lo.xs.length x.lo.c, .int .i64 x.lo.e, .bool x.hi.neg, .slice x.hi.a x.hi.xs.length x.hi.c, .int .i64 x.hi.e, .bool false], .int .i64 p] w (NumOut w (midP x.pl p)) := by
  have Hp := Lib.hid (show preB (p : Int) = true from preB_iff.2 ⟨by omega, by omega⟩)
  have HX := Lib.hid hx
  obtain ⟨A, hA⟩ : ∃ A, A = adP x.lo.dy x.hi.dy p false := ⟨_, rfl⟩
  have HA := Lib.hid hA
  have Hadd := Lib.hid (fun (W : World) (k : Kp w W) => by
    have h := r3add_any x.lo x.hi p false W (hx.lo.1.kp k) (hx.hi.1.kp k)
    rw [addB_dy hx.lo hx.hi hp0 hp1, ← hA] at h
    exact h)
  have HAok := Lib.hid (show A.1.ok by rw [hA]; exact adP_ok _ _ hp0 hp1 _)
  have HAf := Lib.hid (show A.2 = 0 ∨ A.2 = 9 by rw [hA]; exact adP_f _ _ _ _)
  have Hkn := Lib.hid (fun (W : World) (k : Kp w W) => by
    have h := r5known_any x W (hx.1.kp k)
    rw [(goodI_ok hx.1).2 hx, hx.2.1] at h
    exact h)
  clear hA
  go_enter Tryz.func54, Tryz.ntmps54
  go_wp2_with fail
  generalize hW : ((w.alloc _).alloc _) = W at *
  have hk : Kp w W := hW ▸ ((Kp.refl w).alloc _).alloc _
  have hS : W.cell? ⟨w.heap.size, 0, none⟩ = some (.bool x.lo.neg) ∧ W.cell? ⟨w.heap.size, 1, none⟩ = some (.slice x.lo.a x.lo.xs.length x.lo.c) ∧ W.cell? ⟨w.heap.size, 2, none⟩ = some (.int .i64 x.lo.e) ∧ W.cell? ⟨w.heap.size, 3, none⟩ = some (.bool x.hi.neg) ∧ W.cell? ⟨w.heap.size, 4, none⟩ = some (.slice x.hi.a x.hi.xs.length x.hi.c) ∧ W.cell? ⟨w.heap.size, 5, none⟩ = some (.int .i64 x.hi.e) ∧ W.cell? ⟨w.heap.size, 6, none⟩ = some (.bool false) := by rw [← hW]; simp
  have hB : Box3 W (w.heap.size + 1) (.bool false) (.slice none 0 0) (.int .i64 0) := hW ▸ Box3.new2 _ _ _ _ _ _
  clear hW hx
  go_fit (r5prec_any (p : Int) _)
  rw [Hp.out]
  rintro e w2 ⟨rfl, rfl⟩
  go_wp2_with fail
  refine (Hkn.out _ hk).mono ?_
  rintro e w1 ⟨rfl, hk1⟩
  have hS1 := keep7 hk1 hS
  have hB1 := hB.kp hk1
  have hk2 := hk.trans hk1
  clear hS hB hk hk1
  go_wp2_with fail
  refine (Hadd.out _ hk2).mono ?_
  rintro e w5 ⟨z, rfl, hzr, hzd, hzv, hk5⟩
  have hka := hk5.alloc (.cells #[.bool z.neg, .slice z.a z.xs.length z.c, .int .i64 z.e] 33)
  have hzo : z.ok (w5.alloc (.cells #[.bool z.neg, .slice z.a z.xs.length z.c, .int .i64 z.e] 33)) := ⟨hzr.kp ((Kp.refl _).alloc _), hzv HAok.out⟩
  have hS2 := keep7 hka hS1
  have hB2 := hB1.kp hka
  have hk6 := hk2.trans hka
  clear hS1 hB1 hk5 hka hzr hk2
  have hSc := r2half_ok z _ hzo
  rw [hzd] at hSc
  have HSc := Lib.hid hSc
  obtain ⟨C, hC⟩ : ∃ C, C = halfD A.1 := ⟨_, rfl⟩
  have HCok := Lib.hid (show C.1.ok by rw [hC]; exact halfD_ok _)
  have HCf := Lib.hid (show C.2 = 0 ∨ C.2 = 9 by rw [hC]; exact halfD_f _)
  have HC := Lib.hid (show C = halfD (adP x.pl.lo x.pl.hi p false).1 by rw [hC, HA.out]; rfl)
  rw [← hC] at HSc
  clear hSc hzo hzd hzv hC
  go_wp2_with fail
  generalize hW5 : w5.alloc _ = W5 at *
  clear hW5
  refine HSc.out.mono ?_
  rintro e w7 ⟨y, rfl, hyr, hyd, hyv, hk7⟩
  have hka := hk7.alloc (.cells #[.bool y.neg, .slice y.a y.xs.length y.c, .int .i64 y.e] 33)
  have hyo : y.ok (w7.alloc (.cells #[.bool y.neg, .slice y.a y.xs.length y.c, .int .i64 y.e] 33)) := ⟨hyr.kp ((Kp.refl _).alloc _), hyv HCok.out⟩
  have hS3 := keep7 hka hS2
  have hB3 := hB2.kp hka
  have hk8 := hk6.trans hka
  have HYO := Lib.hid hyo
  have Hyd := Lib.hid hyd
  have HX6 := Lib.hid (HX.out.kp hk8).lo
  have hX8 := HX.out.kp hk8
  have hY := Box3.new w7 (.bool y.neg) (.slice y.a y.xs.length y.c) (.int .i64 y.e) 33
  have HH := Lib.hid (r5has_ok x y _ hX8 hyo)
  have Hhas := Lib.hid (show hasI x y = hasX x.pl C.1.iv by
    have e : hasI x y = hasX x.pl y.iv := by unfold hasI hasX; show _ = (x.all || _); rw [HX.out.2.1]; rfl
    rw [e, ← hyd]; rfl)
  clear hX8 hyo hyd hyr hyv hS2 hB2 hk7 hk6 hka HSc
  rcases HAf.out with hf | hf
  rotate_left
  · have HE := Lib.hid (show midP x.pl p = x.lo.dy from midP_a (by show (adP x.lo.dy x.hi.dy p false).2 ≠ 0; rw [← HA.out, hf]; decide))
    rw [hf]
    clear hf HYO hY HH Hhas
    obtain ⟨q0, q1, q2, f0, f1, f2⟩ := id hB3
    go_wp2_with fail
    generalize hW7 : w7.alloc _ = W7 at *
    clear hW7
    generalize hW9 : (((W7.setCell _ _).setCell _ _).setCell _ _) = W9
    obtain ⟨⟨r0, r1, r2, _⟩, hU⟩ := stored3 hB3 (fun _ h => by cases h) (fun _ h => by cases h) (fun _ h => by cases h) _ _ _ hW9
    clear hW9 q0 q1 q2 f0 f1 f2
    refine bodyPost_ret (v := .agg #[.bool x.lo.neg, .slice x.lo.a x.lo.xs.length x.lo.c, .int .i64 x.lo.e]) (by simp [results, Tryz.results54, go_sem, r0, r1, r2]) rfl ?_
    rw [HE.out]
    exact ⟨x.lo, rfl, ⟨hU.2.1 _ _ HX6.out.1.1, HX6.out.1.2⟩, rfl, fun _ => HX6.out.2, hU.2.2.1 _ hk8 (by omega)⟩
  · rw [hf]
    have Hf := Lib.hid hf
    clear hf
    rcases HCf.out with hg | hg
    rotate_left
    · have HE := Lib.hid (show midP x.pl p = x.lo.dy from midP_b (by rw [← HC.out, hg]; decide))
      rw [hg]
      clear hg HYO hY HH Hhas
      obtain ⟨q0, q1, q2, f0, f1, f2⟩ := id hB3
      go_wp2_with fail
      generalize hW7 : w7.alloc _ = W7 at *
      clear hW7
      generalize hW9 : (((W7.setCell _ _).setCell _ _).setCell _ _) = W9
      obtain ⟨⟨r0, r1, r2, _⟩, hU⟩ := stored3 hB3 (fun _ h => by cases h) (fun _ h => by cases h) (fun _ h => by cases h) _ _ _ hW9
      clear hW9 q0 q1 q2 f0 f1 f2
      refine bodyPost_ret (v := .agg #[.bool x.lo.neg, .slice x.lo.a x.lo.xs.length x.lo.c, .int .i64 x.lo.e]) (by simp [results, Tryz.results54, go_sem, r0, r1, r2]) rfl ?_
      rw [HE.out]
      exact ⟨x.lo, rfl, ⟨hU.2.1 _ _ HX6.out.1.1, HX6.out.1.2⟩, rfl, fun _ => HX6.out.2, hU.2.2.1 _ hk8 (by omega)⟩
    · rw [hg]
      have Hg := Lib.hid hg
      cases hb : hasX x.pl C.1.iv with
      | false =>
        have HE := Lib.hid (show midP x.pl p = x.lo.dy from midP_c (by rw [← HC.out]; exact hb))
        have HH2 := HH.out
        rw [Hhas.out, hb] at HH2
        have HH3 := Lib.hid HH2
        clear HH2 HH Hhas hb hg
        go_wp2_with fail
        generalize hW7 : w7.alloc _ = W7 at *
        clear hW7
        refine HH3.out.mono ?_
        rintro e w9 ⟨rfl, hk9⟩
        have hS4 := keep7 hk9 hS3
        have hB4 := hB3.kp hk9
        have hkf := hk8.trans hk9
        have HX7 := Lib.hid (HX.out.kp hkf).lo
        clear hS3 hB3 hY hk8 hk9 HH3 HX6 HYO
        obtain ⟨q0, q1, q2, f0, f1, f2⟩ := id hB4
        go_wp2_with fail
        generalize hW9 : (((w9.setCell _ _).setCell _ _).setCell _ _) = W9
        obtain ⟨⟨r0, r1, r2, _⟩, hU⟩ := stored3 hB4 (fun _ h => by cases h) (fun _ h => by cases h) (fun _ h => by cases h) _ _ _ hW9
        clear hW9 q0 q1 q2 f0 f1 f2
        refine bodyPost_ret (v := .agg #[.bool x.lo.neg, .slice x.lo.a x.lo.xs.length x.lo.c, .int .i64 x.lo.e]) (by simp [results, Tryz.results54, go_sem, r0, r1, r2]) rfl ?_
        rw [HE.out]
        exact ⟨x.lo, rfl, ⟨hU.2.1 _ _ HX7.out.1.1, HX7.out.1.2⟩, rfl, fun _ => HX7.out.2, hU.2.2.1 _ hkf (by omega)⟩
      | true =>
        have HE := Lib.hid (show midP x.pl p = C.1 by rw [HC.out]; exact midP_d (by show (adP x.lo.dy x.hi.dy p false).2 = 0; rw [← HA.out, Hf.out]) (by rw [← HC.out]; exact hg) (by rw [← HC.out]; exact hb))
        have HH2 := HH.out
        rw [Hhas.out, hb] at HH2
        have HH3 := Lib.hid HH2
        clear HH2 HH Hhas hb hg
        go_wp2_with fail
        generalize hW7 : w7.alloc _ = W7 at *
        clear hW7
        refine HH3.out.mono ?_
        rintro e w9 ⟨rfl, hk9⟩
        obtain ⟨j0, j1, j2, _, _, _⟩ := hY.kp hk9
        have hB4 := hB3.kp hk9
        have hkf := hk8.trans hk9
        have HY6 := Lib.hid (HYO.out.kp hk9)
        clear hS3 hB3 hY hk8 hk9 HH3 HX6 HYO
        obtain ⟨q0, q1, q2, f0, f1, f2⟩ := id hB4
        go_wp2_with fail
        generalize hW9 : (((w9.setCell _ _).setCell _ _).setCell _ _) = W9
        obtain ⟨⟨r0, r1, r2, _⟩, hU⟩ := stored3 hB4 (fun _ h => by cases h) (fun _ h => by cases h) (fun _ h => by cases h) _ _ _ hW9
        clear hW9 q0 q1 q2 f0 f1 f2
        refine bodyPost_ret (v := .agg #[.bool y.neg, .slice y.a y.xs.length y.c, .int .i64 y.e]) (by simp [results, Tryz.results54, go_sem, r0, r1, r2]) rfl ?_
        rw [HE.out]
        exact ⟨y, rfl, ⟨hU.2.1 _ _ HY6.out.1.1, HY6.out.1.2⟩, Hyd.out, fun _ => HY6.out.2, hU.2.2.1 _ hkf (by omega)⟩
end Go.Proofs.YtdlpiblgkpgplaaGreatDoor
