/-
  Walks: linear.around.
-/
import Derived.Deep.CutRange
import Derived.Test.YtbhmhfnfceakoaaGreatDoorMRepN
import Derived.Test.YtbhmhfnfceakoaaGreatDoorMLinP
import Derived.Deep.DeepFit
import Derived.Laws.EntriesVeiled
import Derived.Test.YtbhmhfnfceakoaaGreatDoorMFrV
namespace Go.Proofs.YtbhmhfnfceakoaaGreatDoor
open Go.RowKit
theorem set3of7 {w : World} {g b : Nat} (n : b ≠ g) {v0 v1 v2 x0 x1 x2 x3 x4 x5 x6 : Value} (h : w.cell? ⟨b, 0, none⟩ = some v0 ∧ w.cell? ⟨b, 1, none⟩ = some v1 ∧ w.cell? ⟨b, 2, none⟩ = some v2) :
    (fun W : World => W.cell? ⟨b, 0, none⟩ = some v0 ∧ W.cell? ⟨b, 1, none⟩ = some v1 ∧ W.cell? ⟨b, 2, none⟩ = some v2)
      (((((((w.setCell ⟨g, 0, none⟩ x0).setCell ⟨g, 1, none⟩ x1).setCell ⟨g, 2, none⟩ x2).setCell ⟨g, 3, none⟩ x3).setCell ⟨g, 4, none⟩ x4).setCell ⟨g, 5, none⟩ x5).setCell ⟨g, 6, none⟩ x6) := by
  have ne (i j : Nat) : (⟨g, i, none⟩ : Addr) ≠ ⟨b, j, none⟩ := fun e => n (by injection e with e1; exact e1.symm)
  have key (j : Nat) : (((((((w.setCell ⟨g, 0, none⟩ x0).setCell ⟨g, 1, none⟩ x1).setCell ⟨g, 2, none⟩ x2).setCell ⟨g, 3, none⟩ x3).setCell ⟨g, 4, none⟩ x4).setCell ⟨g, 5, none⟩ x5).setCell ⟨g, 6, none⟩ x6).cell? ⟨b, j, none⟩ = w.cell? ⟨b, j, none⟩ := by
    rw [cell_set_ne (ne 6 j), cell_set_ne (ne 5 j), cell_set_ne (ne 4 j), cell_set_ne (ne 3 j), cell_set_ne (ne 2 j), cell_set_ne (ne 1 j), cell_set_ne (ne 0 j)]
  simp only [key]
  exact h
theorem tabM_const_row (n : Nat) (X : PI) : (List.range n).map (fun _ => X) = List.replicate n X := by
  rw [List.map_const', List.length_range]
theorem plR_rep (n : Nat) (y : RI) : plR (List.replicate n y) = rowF n (fun _ => y.pl) := by
  unfold rowF plR
  rw [List.map_replicate, tabM_const_row]
set_option maxRecDepth 100000 in
set_option maxHeartbeats 8000000 in
theorem laround_any (n : Nat) (d : RD) (w : World) (h1 : 1 ≤ n) (h8 : n ≤ 8) (hd : d.ok w) (hp : 0 ≤ d.dy.iv) :
    Calls Tryz.prog 144 #[.int .i64 n, .agg #[.bool d.neg, .slice d.a d.xs.length d.c, .int .i64 d.e]] w (MatV w (tabM n n fun _ _ => ⟨d.dy.opp, d.dy, false⟩)) := by
  have k0 := (Kp.refl w).alloc (.cells #[.bool d.neg, .slice d.a d.xs.length d.c, .int .i64 d.e] 38)
  have HD := Lib.hid (hd.kp k0)
  obtain ⟨X, hX⟩ : ∃ X : PI, X = ⟨d.dy.opp, d.dy, false⟩ := ⟨_, rfl⟩
  have HX := Lib.hid hX
  have HK := Lib.hid k0
  have HP := Lib.hid (show ∀ z : RD, z.dy = d.dy.opp → z.dy.iv ≤ d.dy.iv from fun z hz => by rw [hz, Dy.opp_iv]; omega)
  have H18 := Lib.hid (And.intro h1 h8)
  rw [← hX]
  clear hd hX hp k0
  go_enter Tryz.func144, Tryz.ntmps144
  go_upto_region 1 with fail
  generalize hW : w.alloc _ = W at *
  have hS0 : W.cell? ⟨w.heap.size, 0, none⟩ = some (.bool d.neg) ∧ W.cell? ⟨w.heap.size, 1, none⟩ = some (.slice d.a d.xs.length d.c) ∧ W.cell? ⟨w.heap.size, 2, none⟩ = some (.int .i64 d.e) := by rw [← hW]; simp
  have hsz : w.heap.size < W.heap.size := by rw [← hW]; simp
  generalize w.heap.size = B at *
  clear hW
  go_cut [5] from 7 to 10 (fun s wx => ∃ b1 : Nat, s = .pointer (some ⟨b1, 0, none⟩) ∧ HasI W wx b1 X)
  case first =>
    have kd := Lib.hid (Kp.refl W).drew
    have KZ := Lib.hid (show Kp W (W.drew.alloc (.cells #[.bool false, .slice none 0 0, .int .i64 0, .bool false, .slice none 0 0, .int .i64 0, .bool false] 44)) from kd.out.alloc _)
    have KZ2 := Lib.hid (show Kp W (W.alloc (.cells #[.bool false, .slice none 0 0, .int .i64 0, .bool false, .slice none 0 0, .int .i64 0, .bool false] 44)).drew from ((Kp.refl W).alloc _).drew)
    have HS0 := Lib.hid hS0
    have hSd := keep3 kd.out hS0
    have HSZ := Lib.hid (keep3 KZ2.out hS0)
    have BZ := Lib.hid (show Box7 (W.alloc (.cells #[.bool false, .slice none 0 0, .int .i64 0, .bool false, .slice none 0 0, .int .i64 0, .bool false] 44)).drew W.heap.size _ _ _ _ _ _ _ ∧ Frz (W.alloc (.cells #[.bool false, .slice none 0 0, .int .i64 0, .bool false, .slice none 0 0, .int .i64 0, .bool false] 44)).drew W.heap.size from ⟨Box7.new W.drew _ _ _ _ _ _ _ _, Frz.new W.drew _ _ _ _ _ _ _ _⟩)
    have n1 : B ≠ W.heap.size := Nat.ne_of_lt hsz
    clear hS0
    go_region_held3 (fun w' => w'.cell? ⟨B, 0, none⟩ = some (.bool d.neg) ∧ w'.cell? ⟨B, 1, none⟩ = some (.slice d.a d.xs.length d.c) ∧ w'.cell? ⟨B, 2, none⟩ = some (.int .i64 d.e)) (first | with_reducible assumption | with_reducible exact keep3 (by assumption) (by assumption) | with_reducible exact keep3 ((Kp.refl _).alloc _) (by assumption) | with_reducible exact set3of7 (by assumption) (by assumption) | with_reducible exact HSZ.out | fail)
      (first
        | (go_at_call 67; (with_reducible refine (Neg_ok d _ (HD.out.kp kd.out)).mono ?_); rintro e v1 ⟨z, rfl, rz, dz, vz, j1⟩
           have KJ := Lib.hid (kd.out.trans j1)
           have hS1 := keep3 KJ.out HS0.out
           have GF := Lib.hid KJ.out.size
           have n3 : B ≠ v1.heap.size := by have := GF.out; omega
           have OZ := Lib.hid (And.intro (show z.ok v1 from ⟨rz, vz (Dy.opp_ok2 (rdok_dy HD.out))⟩) (show z.dy = d.dy.opp from dz))
           clear rz dz vz)
        | (go_at_call 67; (with_reducible refine (Neg_ok d _ (HD.out.kp KZ2.out)).mono ?_); rintro e v1 ⟨z, rfl, rz, dz, vz, j1⟩
           have KJ := Lib.hid (KZ2.out.trans j1)
           have hS1 := keep3 KJ.out HS0.out
           have GF := Lib.hid (Nat.le_refl W.heap.size)
           have BF := Lib.hid (And.intro (BZ.out.1.kp j1) (BZ.out.2.kp BZ.out.1 j1))
           have OZ := Lib.hid (And.intro (show z.ok v1 from ⟨rz, vz (Dy.opp_ok2 (rdok_dy HD.out))⟩) (show z.dy = d.dy.opp from dz))
           clear rz dz vz
           obtain ⟨⟨q0, q1, q2, q3, q4, q5, q6⟩, f0, f1, f2, f3, f4, f5, f6⟩ := id BF.out)
        | fail)
    all_goals
      go_wp2_with fail
      go_meet
      case rel => first
        | exact ⟨_, rfl, hasI_store BF.out.1 BF.out.2 (fun _ h => by cases h) (fun _ h => by cases h) (fun _ h => by cases h) (fun _ h => by cases h) (fun _ h => by cases h) (fun _ h => by cases h) (fun _ h => by cases h) (z := ⟨z, d, false⟩) ⟨OZ.out.1.1, (HD.out.kp KJ.out).1⟩ (by show PI.mk z.dy d.dy false = X; rw [OZ.out.2, HX.out]) (vl_mk2 OZ.out.1.2 HD.out.2 (HP.out z OZ.out.2)) KJ.out GF.out⟩
        | exact ⟨_, rfl, hasI_alloc (z := ⟨z, d, false⟩) ⟨OZ.out.1.1, (HD.out.kp KJ.out).1⟩ (by show PI.mk z.dy d.dy false = X; rw [OZ.out.2, HX.out]) (vl_mk2 OZ.out.1.2 HD.out.2 (HP.out z OZ.out.2)) KJ.out _⟩
  case rest =>
  obtain ⟨b1, rfl, hI⟩ := hcut
  obtain ⟨W1, hW1⟩ : ∃ X : World, X = wc := ⟨_, rfl⟩
  subst hW1
  obtain ⟨z, hB, hzr, hzp, hzv, hk, hg⟩ := hI
  have HB := Lib.hid hB
  have HZ := Lib.hid (And.intro hzr (And.intro hzp hzv))
  have HKW := Lib.hid (HK.out.trans hk)
  clear hB hzr hzp hzv hk hg hS0 hsz HP HX HD
  go_wp2_with fail
  go_loopg [6, 12] n (fun q v t wr => ∃ (R : List (List RI)) (us : List Value), R.length + q = n ∧ t = .int .i64 (R.length : Int) ∧ OwnM W1 wr v us R ∧ plM R = tabM R.length n (fun _ _ => X) ∧ okM R)
  case atStart => exact ⟨[], [], by simp, rfl, OwnM.nil (Kp.refl _), rfl, fun r h => by simp at h⟩
  case round =>
  obtain ⟨R, us, hRq, rfl, hO, hpl, hok⟩ := hrel
  have HH := Lib.hid (And.intro hpl hok)
  have HO := Lib.hid hO
  have HKR := Lib.hid hO.1
  clear hpl hok hO
  by_cases hlt : R.length < n
  rotate_left
  · have hRe : R.length = n := by omega
    obtain ⟨va, vc, rfl, hvc1, hvc2, hrm⟩ := HO.out.value
    have HRe := Lib.hid (And.intro hRe hrm)
    clear hRe hRq hrm
    go_wp2_with fail
    refine bodyPost_ret (v := .slice va R.length vc) (by simp [results, Tryz.results144, go_sem]) rfl ?_
    refine ⟨va, R, vc, rfl, HRe.out.2, ?_, HH.out.2, by have := HRe.out.1; have := H18.out.2; omega, HKW.out.trans HKR.out⟩
    rw [HH.out.1, HRe.out.1]
  have Hlt := Lib.hid (And.intro hlt hRq)
  clear hRq
  obtain ⟨⟨s0, s1, s2, s3, s4, s5, s6⟩, _⟩ := HB.out.kp HKR.out
  have hj1 : (0 : Int) ≤ (R.length : Int) := by omega
  have hj2 : (R.length : Int) < (n : Int) := by omega
  have kA := (Kp.refl wr).alloc (.cells #[.bool z.lo.neg, .slice z.lo.a z.lo.xs.length z.lo.c, .int .i64 z.lo.e, .bool z.hi.neg, .slice z.hi.a z.hi.xs.length z.hi.c, .int .i64 z.hi.e, .bool z.all] 44)
  have HR := Lib.hid (repeat_any z wr.heap.size 1 n (wr.alloc (.cells #[.bool z.lo.neg, .slice z.lo.a z.lo.xs.length z.lo.c, .int .i64 z.lo.e, .bool z.hi.neg, .slice z.hi.a z.hi.xs.length z.hi.c, .int .i64 z.hi.e, .bool z.all] 44)) (HZ.out.1.kp (HKR.out.trans kA)) (by simp) H18.out.1 H18.out.2)
  have HKA := Lib.hid kA
  clear kA
  go_wp2_with fail
  go_fit HR.out
  rintro e v1 ⟨g, rfl, hrow, j1, hg1, hg2⟩
  have kB := (Kp.refl v1).alloc (.cells #[.slice (some ⟨g, 0, none⟩) (List.replicate n z).length n] 24)
  have HOA := HO.out.kp (HKA.out.trans (j1.trans kB))
  have hrowA := hrow.kp kB
  have hlen : (List.replicate n z).length = n := List.length_replicate
  have hoff := (show ∀ u : Value, OwnM W1 wr u us R → Off u (some ⟨g, 0, none⟩) (v1.alloc (.cells #[.slice (some ⟨g, 0, none⟩) (List.replicate n z).length n] 24)) from by
    intro u hu p hp
    cases hp
    refine ⟨fun e => ?_, by simp; omega⟩
    have h1 := hu.new g e
    have h2 := HKA.out.size
    simp at hg1
    omega) _ HO.out
  rw [hlen] at HOA hrowA hoff
  have hcl2 : (List.replicate n z).length ≤ 1100000 := by have := H18.out.2; omega
  have hRl : R.length + 1 ≤ 9000000 := by have := H18.out.2; omega
  have hcell : (v1.alloc (.cells #[.slice (some ⟨g, 0, none⟩) n n] 24)).cell? ⟨v1.heap.size, 0, none⟩ = some (.slice (some ⟨g, 0, none⟩) (List.replicate n z).length n) := by rw [hlen]; simp
  have HRP := Lib.hid (show plR (List.replicate n z) = rowF n (fun _ => X) by rw [plR_rep, HZ.out.2.1])
  have HRV := Lib.hid (show ∀ x ∈ List.replicate n z, x.vl = true from fun x hx => by rw [List.eq_of_mem_replicate hx]; exact HZ.out.2.2)
  have HCL := Lib.hid hcl2
  have HRW := Lib.hid hrowA
  clear hrow hg1 hg2 kB hlen hcl2 hrowA s0 s1 s2 s3 s4 s5 s6
  go_wp2_with (at_builtin; refine wpList_append_rowi rfl _ _ rfl W1 _ us R rfl HOA _ _ rfl (some ⟨g, 0, none⟩) n (List.replicate n z) HRW.out hoff HCL.out hcell hRl ?_; intro v' us' w9 hM9)
  go_roundg (gk - 1)
  case measure => have := Hlt.out; omega
  case rel =>
  refine ⟨R ++ [List.replicate n z], us', by have := Hlt.out; rw [List.length_append, List.length_singleton]; omega, by rw [List.length_append, List.length_singleton]; go_num, hM9, ?_, okM_snoc HH.out.2 HRV.out⟩
  rw [plM_snoc, HH.out.1, List.length_append, List.length_singleton, tabM_snoc, HRP.out]
theorem lprecise_any (p : Int) (w : World) :
    Calls Tryz.prog 105 #[.int .i64 p] w fun e w' => e = .returned (.bool (preB p)) ∧ w = w' := by
  by_cases h1 : 8 ≤ p
  rotate_left
  · have H := Lib.hid (show preB p = false from decide_eq_false (by omega))
    go_enter Tryz.func105, Tryz.ntmps105
    go_wp2_with fail
    go_ret
    exact ⟨ret_bool (by first | exact H.out.symm | (rw [H.out]; simp; omega)), rfl⟩
  by_cases h2 : p ≤ 512
  · have H := Lib.hid (show preB p = true from decide_eq_true ⟨h1, h2⟩)
    go_enter Tryz.func105, Tryz.ntmps105
    go_wp2_with fail
    go_ret
    exact ⟨ret_bool (by first | exact H.out.symm | (rw [H.out]; simp; omega)), rfl⟩
  have H := Lib.hid (show preB p = false from decide_eq_false (by omega))
  go_enter Tryz.func105, Tryz.ntmps105
  go_wp2_with fail
  go_ret
  exact ⟨ret_bool (by first | exact H.out.symm | (rw [H.out]; simp; omega)), rfl⟩
set_option maxHeartbeats 2000000 in
theorem ln11_any (x : RD) (w : World) (hx : x.rd w) :
    Calls Tryz.prog 168 #[.agg #[.bool x.neg, .slice x.a x.xs.length x.c, .int .i64 x.e]] w fun e w' => e = .returned (.bool (!x.vl)) ∧ Kp w w' := by
  have k1 := (Kp.refl w).alloc (.cells #[.bool x.neg, .slice x.a x.xs.length x.c, .int .i64 x.e] 38)
  have HX := Lib.hid (hx.kp k1)
  clear hx
  go_enter Tryz.func168, Tryz.ntmps168
  go_upto_region 1 with fail
  generalize hW : w.alloc _ = W at *
  obtain ⟨s0, s1, s2⟩ : W.cell? ⟨w.heap.size, 0, none⟩ = some (.bool x.neg) ∧ W.cell? ⟨w.heap.size, 1, none⟩ = some (.slice x.a x.xs.length x.c) ∧ W.cell? ⟨w.heap.size, 2, none⟩ = some (.int .i64 x.e) := by rw [← hW]; simp
  clear hW
  go_wp2_with fail
  go_fit (Valid_raw x _ HX.out)
  rintro e w1 ⟨rfl, k2⟩
  go_wp2_with fail
  go_ret
  exact ⟨rfl, k1.trans k2⟩
set_option maxHeartbeats 2000000 in
theorem ln1_any (r : List RD) (n : Nat) (ra : Option Addr) (rc bn : Nat) (w : World) (hr : RowD w ra r) (hrl : r.length ≤ 1100000)
    (h1 : w.cell? ⟨bn, 0, none⟩ = some (.int .i64 (n : Int))) :
    Calls Tryz.prog 167 #[.slice ra r.length rc, .pointer (some ⟨bn, 0, none⟩)] w fun e w' => e = .returned (.bool (badF n r)) ∧ Kp w w' := by
  have hp : AnsD Tryz.prog 168 #[] w r (fun x => !x.vl) := ⟨fun _ _ => by kernel_rfl, fun x hx w1 k => ln11_any x w1 ((hr.rd hx).kp k)⟩
  have HC := Lib.hid (containsD ra r rc _ _ w _ hrl hr hp)
  clear hp hr
  by_cases hlen : r.length = n
  rotate_left
  · have hne : ((r.length : Int) != (n : Int)) = true := by simpa using (by omega : ¬ (r.length : Int) = (n : Int))
    have HB := Lib.hid (show badF n r = true by unfold badF; rw [decide_eq_true (by simpa using hlen)]; rfl)
    clear hlen
    go_enter Tryz.func167, Tryz.ntmps167
    go_wp2_with fail
    go_ret
    exact ⟨ret_bool HB.out.symm, .refl _⟩
  have hne : ((r.length : Int) != (n : Int)) = false := by rw [hlen]; simp
  have HB := Lib.hid (show badF n r = r.any (fun x => !x.vl) by unfold badF; rw [decide_eq_false (by simpa using hlen)]; rfl)
  clear hlen
  go_enter Tryz.func167, Tryz.ntmps167
  go_wp2_with fail
  go_fit HC.out
  rintro e w1 ⟨rfl, k1⟩
  go_wp2_with fail
  go_ret
  exact ⟨ret_bool HB.out.symm, k1⟩
theorem sqN_any (m : List (List RD)) : sqN m = (decide (1 ≤ m.length ∧ m.length ≤ 8) && !m.any (badF m.length)) := by
  rw [Bool.eq_iff_iff, sqN_iff, Bool.and_eq_true, decide_eq_true_eq, Bool.not_eq_true', List.any_eq_false]
  refine and_congr_right fun _ => forall_congr' fun r => forall_congr' fun _ => ?_
  unfold badF
  simp
set_option maxHeartbeats 4000000 in
theorem lnumbers_any (m : List (List RD)) (a : Option Addr) (c : Nat) (w : World) (hm : RowN w a m) (hl : m.length ≤ 1100000) :
    Calls Tryz.prog 106 #[.slice a m.length c] w fun e w' => e = .returned (.bool (sqN m)) ∧ Kp w w' := by
  have HV := Lib.hid (sqN_any m)
  have HM := Lib.hid hm
  have kk := (Kp.refl w).alloc (.cells #[.int .i64 (m.length : Int)] 3)
  clear hm
  by_cases h1 : m.length < 1
  · have H := Lib.hid (show sqN m = false by rw [HV.out, decide_eq_false (by omega)]; rfl)
    have g1 : (m.length : Int) < 1 := by omega
    clear h1 HV
    go_enter Tryz.func106, Tryz.ntmps106
    go_wp2_with fail
    go_ret
    exact ⟨ret_bool H.out.symm, kk⟩
  have g1 : ¬ (m.length : Int) < 1 := by omega
  by_cases h2 : 8 < m.length
  · have H := Lib.hid (show sqN m = false by rw [HV.out, decide_eq_false (by omega)]; rfl)
    have g2 : (8 : Int) < (m.length : Int) := by omega
    clear h1 h2 HV
    go_enter Tryz.func106, Tryz.ntmps106
    go_wp2_with fail
    go_ret
    exact ⟨ret_bool H.out.symm, kk⟩
  have g2 : ¬ (8 : Int) < (m.length : Int) := by omega
  have H := Lib.hid (show sqN m = !m.any (badF m.length) by rw [HV.out, decide_eq_true (by omega)]; rfl)
  have hc0 : (w.alloc (.cells #[.int .i64 (m.length : Int)] 3)).cell? ⟨w.heap.size, 0, none⟩ = some (.int .i64 (m.length : Int)) := by simp
  have HC := Lib.hid (containsN a m c 167 #[.pointer (some ⟨w.heap.size, 0, none⟩)] _ (badF m.length) hl (HM.out.kp kk) ⟨fun _ _ => by kernel_rfl, fun r hr ra rc w2 k hrow => ln1_any r m.length ra rc _ w2 hrow.1 hrow.2 (k.cell hc0)⟩)
  clear h1 h2 HV
  go_enter Tryz.func106, Tryz.ntmps106
  go_upto_region 3 with fail
  generalize w.alloc _ = W at *
  go_wp2_with fail
  go_fit HC.out
  rintro e w1 ⟨rfl, k1⟩
  go_wp2_with fail
  go_ret
  exact ⟨ret_bool (by rw [H.out]), kk.trans k1⟩
end Go.Proofs.YtbhmhfnfceakoaaGreatDoor
