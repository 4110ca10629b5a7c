/-
  Walks: linear.around.
-/
import Derived.Deep.CutRange
import Derived.Test.YtpocjagbhiahdaaGreatDoorMRepN
import Derived.Test.YtpocjagbhiahdaaGreatDoorMTabP
import Derived.Deep.DeepFit
import Derived.Laws.EntriesVeiled
import Derived.Test.YtpocjagbhiahdaaGreatDoorMKnuE
import Derived.Test.YtpocjagbhiahdaaGreatDoorMEchM
import Derived.Deep.RegionHeld3
import Derived.Test.YtpocjagbhiahdaaGreatDoorMBndN
import Derived.Deep.LoopGhost
import Derived.Test.YtpocjagbhiahdaaGreatDoorMOwnX
import Derived.Test.YtpocjagbhiahdaaGreatDoorMIvM
import Derived.Test.YtpocjagbhiahdaaGreatDoorMRoC
namespace Go.Proofs.YtpocjagbhiahdaaGreatDoor
open Go.RowKit
theorem set3of7 {w : World} {g b : Nat} (n : b ≠ g) {v0 v1 v2 x0 x1 x2 x3 x4 x5 x6 : Value} (h : w.cell? ⟨b, 0, none⟩ = some v0 ∧ w.cell? ⟨b, 1, none⟩ = some v1 ∧ w.cell? ⟨b, 2, none⟩ = some v2) :
    (fun W : World => W.cell? ⟨b, 0, none⟩ = some v0 ∧ W.cell? ⟨b, 1, none⟩ = some v1 ∧ W.cell? ⟨b, 2, none⟩ = some v2)
      (((((((w.setCell ⟨g, 0, none⟩ x0).setCell ⟨g, 1, none⟩ x1).setCell ⟨g, 2, none⟩ x2).setCell ⟨g, 3, none⟩ x3).setCell ⟨g, 4, none⟩ x4).setCell ⟨g, 5, none⟩ x5).setCell ⟨g, 6, none⟩ x6) := by
  have ne (i j : Nat) : (⟨g, i, none⟩ : Addr) ≠ ⟨b, j, none⟩ := fun e => n (by injection e with e1; exact e1.symm)
  have key (j : Nat) : (((((((w.setCell ⟨g, 0, none⟩ x0).setCell ⟨g, 1, none⟩ x1).setCell ⟨g, 2, none⟩ x2).setCell ⟨g, 3, none⟩ x3).setCell ⟨g, 4, none⟩ x4).setCell ⟨g, 5, none⟩ x5).setCell ⟨g, 6, none⟩ x6).cell? ⟨b, j, none⟩ = w.cell? ⟨b, j, none⟩ := by
    rw [cell_set_ne (ne 6 j), cell_set_ne (ne 5 j), cell_set_ne (ne 4 j), cell_set_ne (ne 3 j), cell_set_ne (ne 2 j), cell_set_ne (ne 1 j), cell_set_ne (ne 0 j)]
  simp only [key]
  exact h
theorem tabM_const_row (n : Nat) (X : PI) : (List.range n).map (fun _ => X) = List.replicate n X := by
  rw [List.map_const', List.length_range]
theorem plR_rep (n : Nat) (y : RI) : plR (List.replicate n y) = rowF n (fun _ => y.pl) := by
  unfold rowF plR
  rw [List.map_replicate, tabM_const_row]
set_option maxRecDepth 100000 in
set_option maxHeartbeats 8000000 in
theorem laround_any (n : Nat) (d : RD) (w : World) (h1 : 1 ≤ n) (h8 : n ≤ 8) (hd : d.ok w) (hp : 0 ≤ d.dy.iv) :
    Calls Tryz.prog 34 #[.int .i64 n, .agg #[.bool d.neg, .slice d.a d.xs.length d.c, .int .i64 d.e]] w (MatV w (tabM n n fun _ _ => ⟨d.dy.opp, d.dy, false⟩)) := by
  have k0 := (Kp.refl w).alloc (.cells #[.bool d.neg, .slice d.a d.xs.length d.c, .int .i64 d.e] 42)
  have HD := Lib.hid (hd.kp k0)
  obtain ⟨X, hX⟩ : ∃ X : PI, X = ⟨d.dy.opp, d.dy, false⟩ := ⟨_, rfl⟩
  have HX := Lib.hid hX
  have HK := Lib.hid k0
  have HP := Lib.hid (show ∀ z : RD, z.dy = d.dy.opp → z.dy.iv ≤ d.dy.iv from fun z hz => by rw [hz, Dy.opp_iv]; omega)
  have H18 := Lib.hid (And.intro h1 h8)
  rw [← hX]
  clear hd hX hp k0
  go_enter Tryz.func34, Tryz.ntmps34
  go_upto_region 1 with fail
  generalize hW : w.alloc _ = W at *
  have hS0 : W.cell? ⟨w.heap.size, 0, none⟩ = some (.bool d.neg) ∧ W.cell? ⟨w.heap.size, 1, none⟩ = some (.slice d.a d.xs.length d.c) ∧ W.cell? ⟨w.heap.size, 2, none⟩ = some (.int .i64 d.e) := by rw [← hW]; simp
  have hsz : w.heap.size < W.heap.size := by rw [← hW]; simp
  generalize w.heap.size = B at *
  clear hW
  go_cut [5] from 7 to 10 (fun s wx => ∃ b1 : Nat, s = .pointer (some ⟨b1, 0, none⟩) ∧ HasI W wx b1 X)
  case first =>
    have kd := Lib.hid (Kp.refl W).drew
    have KZ := Lib.hid (show Kp W (W.drew.alloc (.cells #[.bool false, .slice none 0 0, .int .i64 0, .bool false, .slice none 0 0, .int .i64 0, .bool false] 44)) from kd.out.alloc _)
    have KZ2 := Lib.hid (show Kp W (W.alloc (.cells #[.bool false, .slice none 0 0, .int .i64 0, .bool false, .slice none 0 0, .int .i64 0, .bool false] 44)).drew from ((Kp.refl W).alloc _).drew)
    have HS0 := Lib.hid hS0
    have hSd := keep3 kd.out hS0
    have HSZ := Lib.hid (keep3 KZ2.out hS0)
    have BZ := Lib.hid (show Box7 (W.alloc (.cells #[.bool false, .slice none 0 0, .int .i64 0, .bool false, .slice none 0 0, .int .i64 0, .bool false] 44)).drew W.heap.size _ _ _ _ _ _ _ ∧ Frz (W.alloc (.cells #[.bool false, .slice none 0 0, .int .i64 0, .bool false, .slice none 0 0, .int .i64 0, .bool false] 44)).drew W.heap.size from ⟨Box7.new W.drew _ _ _ _ _ _ _ _, Frz.new W.drew _ _ _ _ _ _ _ _⟩)
    have n1 : B ≠ W.heap.size := Nat.ne_of_lt hsz
    clear hS0
    go_region_held3 (fun w' => w'.cell? ⟨B, 0, none⟩ = some (.bool d.neg) ∧ w'.cell? ⟨B, 1, none⟩ = some (.slice d.a d.xs.length d.c) ∧ w'.cell? ⟨B, 2, none⟩ = some (.int .i64 d.e)) (first | with_reducible assumption | with_reducible exact keep3 (by assumption) (by assumption) | with_reducible exact keep3 ((Kp.refl _).alloc _) (by assumption) | with_reducible exact set3of7 (by assumption) (by assumption) | with_reducible exact HSZ.out | fail)
      (first
        | (go_at_call 69; (with_reducible refine (Neg_ok d _ (HD.out.kp kd.out)).mono ?_); rintro e v1 ⟨z, rfl, rz, dz, vz, j1⟩
           have KJ := Lib.hid (kd.out.trans j1)
           have hS1 := keep3 KJ.out HS0.out
           have GF := Lib.hid KJ.out.size
           have n3 : B ≠ v1.heap.size := by have := GF.out; omega
           have OZ := Lib.hid (And.intro (show z.ok v1 from ⟨rz, vz (Dy.opp_ok2 (rdok_dy HD.out))⟩) (show z.dy = d.dy.opp from dz))
           clear rz dz vz)
        | (go_at_call 69; (with_reducible refine (Neg_ok d _ (HD.out.kp KZ2.out)).mono ?_); rintro e v1 ⟨z, rfl, rz, dz, vz, j1⟩
           have KJ := Lib.hid (KZ2.out.trans j1)
           have hS1 := keep3 KJ.out HS0.out
           have GF := Lib.hid (Nat.le_refl W.heap.size)
           have BF := Lib.hid (And.intro (BZ.out.1.kp j1) (BZ.out.2.kp BZ.out.1 j1))
           have OZ := Lib.hid (And.intro (show z.ok v1 from ⟨rz, vz (Dy.opp_ok2 (rdok_dy HD.out))⟩) (show z.dy = d.dy.opp from dz))
           clear rz dz vz
           obtain ⟨⟨q0, q1, q2, q3, q4, q5, q6⟩, f0, f1, f2, f3, f4, f5, f6⟩ := id BF.out)
        | fail)
    all_goals
      go_wp2_with fail
      go_meet
      case rel => first
        | exact ⟨_, rfl, hasI_store BF.out.1 BF.out.2 (fun _ h => by cases h) (fun _ h => by cases h) (fun _ h => by cases h) (fun _ h => by cases h) (fun _ h => by cases h) (fun _ h => by cases h) (fun _ h => by cases h) (z := ⟨z, d, false⟩) ⟨OZ.out.1.1, (HD.out.kp KJ.out).1⟩ (by show PI.mk z.dy d.dy false = X; rw [OZ.out.2, HX.out]) (vl_mk2 OZ.out.1.2 HD.out.2 (HP.out z OZ.out.2)) KJ.out GF.out⟩
        | exact ⟨_, rfl, hasI_alloc (z := ⟨z, d, false⟩) ⟨OZ.out.1.1, (HD.out.kp KJ.out).1⟩ (by show PI.mk z.dy d.dy false = X; rw [OZ.out.2, HX.out]) (vl_mk2 OZ.out.1.2 HD.out.2 (HP.out z OZ.out.2)) KJ.out _⟩
  case rest =>
  obtain ⟨b1, rfl, hI⟩ := hcut
  obtain ⟨W1, hW1⟩ : ∃ X : World, X = wc := ⟨_, rfl⟩
  subst hW1
  obtain ⟨z, hB, hzr, hzp, hzv, hk, hg⟩ := hI
  have HB := Lib.hid hB
  have HZ := Lib.hid (And.intro hzr (And.intro hzp hzv))
  have HKW := Lib.hid (HK.out.trans hk)
  clear hB hzr hzp hzv hk hg hS0 hsz HP HX HD
  go_wp2_with fail
  go_loopg [6, 12] n (fun q v t wr => ∃ (R : List (List RI)) (us : List Value), R.length + q = n ∧ t = .int .i64 (R.length : Int) ∧ OwnM W1 wr v us R ∧ plM R = tabM R.length n (fun _ _ => X) ∧ okM R)
  case atStart => exact ⟨[], [], by simp, rfl, OwnM.nil (Kp.refl _), rfl, fun r h => by simp at h⟩
  case round =>
  obtain ⟨R, us, hRq, rfl, hO, hpl, hok⟩ := hrel
  have HH := Lib.hid (And.intro hpl hok)
  have HO := Lib.hid hO
  have HKR := Lib.hid hO.1
  clear hpl hok hO
  by_cases hlt : R.length < n
  rotate_left
  · have hRe : R.length = n := by omega
    obtain ⟨va, vc, rfl, hvc1, hvc2, hrm⟩ := HO.out.value
    have HRe := Lib.hid (And.intro hRe hrm)
    clear hRe hRq hrm
    go_wp2_with fail
    refine bodyPost_ret (v := .slice va R.length vc) (by simp [results, Tryz.results34, go_sem]) rfl ?_
    refine ⟨va, R, vc, rfl, HRe.out.2, ?_, HH.out.2, by have := HRe.out.1; have := H18.out.2; omega, HKW.out.trans HKR.out⟩
    rw [HH.out.1, HRe.out.1]
  have Hlt := Lib.hid (And.intro hlt hRq)
  clear hRq
  obtain ⟨⟨s0, s1, s2, s3, s4, s5, s6⟩, _⟩ := HB.out.kp HKR.out
  have hj1 : (0 : Int) ≤ (R.length : Int) := by omega
  have hj2 : (R.length : Int) < (n : Int) := by omega
  have kA := (Kp.refl wr).alloc (.cells #[.bool z.lo.neg, .slice z.lo.a z.lo.xs.length z.lo.c, .int .i64 z.lo.e, .bool z.hi.neg, .slice z.hi.a z.hi.xs.length z.hi.c, .int .i64 z.hi.e, .bool z.all] 44)
  have HR := Lib.hid (repeat_any z wr.heap.size 1 n (wr.alloc (.cells #[.bool z.lo.neg, .slice z.lo.a z.lo.xs.length z.lo.c, .int .i64 z.lo.e, .bool z.hi.neg, .slice z.hi.a z.hi.xs.length z.hi.c, .int .i64 z.hi.e, .bool z.all] 44)) (HZ.out.1.kp (HKR.out.trans kA)) (by simp) H18.out.1 H18.out.2)
  have HKA := Lib.hid kA
  clear kA
  go_wp2_with fail
  go_fit HR.out
  rintro e v1 ⟨g, rfl, hrow, j1, hg1, hg2⟩
  have kB := (Kp.refl v1).alloc (.cells #[.slice (some ⟨g, 0, none⟩) (List.replicate n z).length n] 34)
  have HOA := HO.out.kp (HKA.out.trans (j1.trans kB))
  have hrowA := hrow.kp kB
  have hlen : (List.replicate n z).length = n := List.length_replicate
  have hoff := (show ∀ u : Value, OwnM W1 wr u us R → Off u (some ⟨g, 0, none⟩) (v1.alloc (.cells #[.slice (some ⟨g, 0, none⟩) (List.replicate n z).length n] 34)) from by
    intro u hu p hp
    cases hp
    refine ⟨fun e => ?_, by simp; omega⟩
    have h1 := hu.new g e
    have h2 := HKA.out.size
    simp at hg1
    omega) _ HO.out
  rw [hlen] at HOA hrowA hoff
  have hcl2 : (List.replicate n z).length ≤ 1100000 := by have := H18.out.2; omega
  have hRl : R.length + 1 ≤ 9000000 := by have := H18.out.2; omega
  have hcell : (v1.alloc (.cells #[.slice (some ⟨g, 0, none⟩) n n] 34)).cell? ⟨v1.heap.size, 0, none⟩ = some (.slice (some ⟨g, 0, none⟩) (List.replicate n z).length n) := by rw [hlen]; simp
  have HRP := Lib.hid (show plR (List.replicate n z) = rowF n (fun _ => X) by rw [plR_rep, HZ.out.2.1])
  have HRV := Lib.hid (show ∀ x ∈ List.replicate n z, x.vl = true from fun x hx => by rw [List.eq_of_mem_replicate hx]; exact HZ.out.2.2)
  have HCL := Lib.hid hcl2
  have HRW := Lib.hid hrowA
  clear hrow hg1 hg2 kB hlen hcl2 hrowA s0 s1 s2 s3 s4 s5 s6
  go_wp2_with (at_builtin; refine wpList_append_rowi rfl _ _ rfl W1 _ us R rfl HOA _ _ rfl (some ⟨g, 0, none⟩) n (List.replicate n z) HRW.out hoff HCL.out hcell hRl ?_; intro v' us' w9 hM9)
  go_roundg (gk - 1)
  case measure => have := Hlt.out; omega
  case rel =>
  refine ⟨R ++ [List.replicate n z], us', by have := Hlt.out; rw [List.length_append, List.length_singleton]; omega, by rw [List.length_append, List.length_singleton]; go_num, hM9, ?_, okM_snoc HH.out.2 HRV.out⟩
  rw [plM_snoc, HH.out.1, List.length_append, List.length_singleton, tabM_snoc, HRP.out]
def badF (n : Nat) (r : List RD) : Bool := decide (r.length ≠ n) || r.any fun x => !x.vl
theorem lprecise_any (p : Int) (w : World) :
    Calls Tryz.prog 28 #[.int .i64 p] w fun e w' => e = .returned (.bool (preB p)) ∧ w = w' := by
  by_cases h1 : 8 ≤ p
  rotate_left
  · have H := Lib.hid (show preB p = false from decide_eq_false (by omega))
    go_enter Tryz.func28, Tryz.ntmps28
    go_wp2_with fail
    go_ret
    exact ⟨ret_bool (by first | exact H.out.symm | (rw [H.out]; simp; omega)), rfl⟩
  by_cases h2 : p ≤ 512
  · have H := Lib.hid (show preB p = true from decide_eq_true ⟨h1, h2⟩)
    go_enter Tryz.func28, Tryz.ntmps28
    go_wp2_with fail
    go_ret
    exact ⟨ret_bool (by first | exact H.out.symm | (rw [H.out]; simp; omega)), rfl⟩
  have H := Lib.hid (show preB p = false from decide_eq_false (by omega))
  go_enter Tryz.func28, Tryz.ntmps28
  go_wp2_with fail
  go_ret
  exact ⟨ret_bool (by first | exact H.out.symm | (rw [H.out]; simp; omega)), rfl⟩
set_option maxHeartbeats 2000000 in
theorem ln11_any (x : RD) (w : World) (hx : x.rd w) :
    Calls Tryz.prog 64 #[.agg #[.bool x.neg, .slice x.a x.xs.length x.c, .int .i64 x.e]] w fun e w' => e = .returned (.bool (!x.vl)) ∧ Kp w w' := by
  have k1 := (Kp.refl w).alloc (.cells #[.bool x.neg, .slice x.a x.xs.length x.c, .int .i64 x.e] 42)
  have HX := Lib.hid (hx.kp k1)
  clear hx
  go_enter Tryz.func64, Tryz.ntmps64
  go_upto_region 1 with fail
  generalize hW : w.alloc _ = W at *
  obtain ⟨s0, s1, s2⟩ : W.cell? ⟨w.heap.size, 0, none⟩ = some (.bool x.neg) ∧ W.cell? ⟨w.heap.size, 1, none⟩ = some (.slice x.a x.xs.length x.c) ∧ W.cell? ⟨w.heap.size, 2, none⟩ = some (.int .i64 x.e) := by rw [← hW]; simp
  clear hW
  go_wp2_with fail
  go_fit (Valid_raw x _ HX.out)
  rintro e w1 ⟨rfl, k2⟩
  go_wp2_with fail
  go_ret
  exact ⟨rfl, k1.trans k2⟩
set_option maxHeartbeats 2000000 in
theorem ln1_any (r : List RD) (n : Nat) (ra : Option Addr) (rc bn : Nat) (w : World) (hr : RowD w ra r) (hrl : r.length ≤ 1100000)
    (h1 : w.cell? ⟨bn, 0, none⟩ = some (.int .i64 (n : Int))) :
    Calls Tryz.prog 63 #[.slice ra r.length rc, .pointer (some ⟨bn, 0, none⟩)] w fun e w' => e = .returned (.bool (badF n r)) ∧ Kp w w' := by
  have hp : AnsD Tryz.prog 64 #[] w r (fun x => !x.vl) := ⟨fun _ _ => by kernel_rfl, fun x hx w1 k => ln11_any x w1 ((hr.rd hx).kp k)⟩
  have HC := Lib.hid (containsD ra r rc _ _ w _ hrl hr hp)
  clear hp hr
  by_cases hlen : r.length = n
  rotate_left
  · have hne : ((r.length : Int) != (n : Int)) = true := by simpa using (by omega : ¬ (r.length : Int) = (n : Int))
    have HB := Lib.hid (show badF n r = true by unfold badF; rw [decide_eq_true (by simpa using hlen)]; rfl)
    clear hlen
    go_enter Tryz.func63, Tryz.ntmps63
    go_wp2_with fail
    go_ret
    exact ⟨ret_bool HB.out.symm, .refl _⟩
  have hne : ((r.length : Int) != (n : Int)) = false := by rw [hlen]; simp
  have HB := Lib.hid (show badF n r = r.any (fun x => !x.vl) by unfold badF; rw [decide_eq_false (by simpa using hlen)]; rfl)
  clear hlen
  go_enter Tryz.func63, Tryz.ntmps63
  go_wp2_with fail
  go_fit HC.out
  rintro e w1 ⟨rfl, k1⟩
  go_wp2_with fail
  go_ret
  exact ⟨ret_bool HB.out.symm, k1⟩
theorem sqN_any (m : List (List RD)) : sqN m = (decide (1 ≤ m.length ∧ m.length ≤ 8) && !m.any (badF m.length)) := by
  rw [Bool.eq_iff_iff, sqN_iff, Bool.and_eq_true, decide_eq_true_eq, Bool.not_eq_true', List.any_eq_false]
  refine and_congr_right fun _ => forall_congr' fun r => forall_congr' fun _ => ?_
  unfold badF
  simp
set_option maxHeartbeats 4000000 in
theorem lnumbers_any (m : List (List RD)) (a : Option Addr) (c : Nat) (w : World) (hm : RowN w a m) (hl : m.length ≤ 1100000) :
    Calls Tryz.prog 29 #[.slice a m.length c] w fun e w' => e = .returned (.bool (sqN m)) ∧ Kp w w' := by
  have HV := Lib.hid (sqN_any m)
  have HM := Lib.hid hm
  have kk := (Kp.refl w).alloc (.cells #[.int .i64 (m.length : Int)] 3)
  clear hm
  by_cases h1 : m.length < 1
  · have H := Lib.hid (show sqN m = false by rw [HV.out, decide_eq_false (by omega)]; rfl)
    have g1 : (m.length : Int) < 1 := by omega
    clear h1 HV
    go_enter Tryz.func29, Tryz.ntmps29
    go_wp2_with fail
    go_ret
    exact ⟨ret_bool H.out.symm, kk⟩
  have g1 : ¬ (m.length : Int) < 1 := by omega
  by_cases h2 : 8 < m.length
  · have H := Lib.hid (show sqN m = false by rw [HV.out, decide_eq_false (by omega)]; rfl)
    have g2 : (8 : Int) < (m.length : Int) := by omega
    clear h1 h2 HV
    go_enter Tryz.func29, Tryz.ntmps29
    go_wp2_with fail
    go_ret
    exact ⟨ret_bool H.out.symm, kk⟩
  have g2 : ¬ (8 : Int) < (m.length : Int) := by omega
  have H := Lib.hid (show sqN m = !m.any (badF m.length) by rw [HV.out, decide_eq_true (by omega)]; rfl)
  have hc0 : (w.alloc (.cells #[.int .i64 (m.length : Int)] 3)).cell? ⟨w.heap.size, 0, none⟩ = some (.int .i64 (m.length : Int)) := by simp
  have HC := Lib.hid (containsN a m c 63 #[.pointer (some ⟨w.heap.size, 0, none⟩)] _ (badF m.length) hl (HM.out.kp kk) ⟨fun _ _ => by kernel_rfl, fun r hr ra rc w2 k hrow => ln1_any r m.length ra rc _ w2 hrow.1 hrow.2 (k.cell hc0)⟩)
  clear h1 h2 HV
  go_enter Tryz.func29, Tryz.ntmps29
  go_upto_region 3 with fail
  generalize w.alloc _ = W at *
  go_wp2_with fail
  go_fit HC.out
  rintro e w1 ⟨rfl, k1⟩
  go_wp2_with fail
  go_ret
  exact ⟨ret_bool (by rw [H.out]), kk.trans k1⟩
theorem sqN_cols {m : List (List RD)} (h : sqN m = true) : vlN m = true ∧ colsN m = m.length ∧ 1 ≤ m.length ∧ m.length ≤ 8 := by
  have h1 := (sqN_iff.1 h).1
  unfold sqN at h
  rw [Bool.and_eq_true, decide_eq_true_eq] at h
  exact ⟨h.1, h.2.symm, h1⟩
theorem ofF_sq {m : List (List RD)} (h : sqN m = true) : ofF m = tabM m.length m.length (fun i j => ptP (atN m i j)) := by
  obtain ⟨h1, h2, _⟩ := sqN_cols h
  unfold ofF
  rw [if_pos h1, h2]
theorem resQ_congr {n p : Nat} {V V' A A' : Nat → Nat → PI} (hn : 1 ≤ n) (hV : ∀ i j, i < n → j < n → V i j = V' i j) (hA : ∀ i j, i < n → j < n → A i j = A' i j) : resQ n p V A = resQ n p V' A' := by
  unfold resQ
  refine tabM_congr fun i j hi hj => ?_
  rw [dotF_congr (n - 1) fun t ht => ⟨hV i t hi (by omega), hA t j (by omega) hj⟩]
theorem corB_off {a v : List (List RD)} {p : Int} (h : corB a v p = false) : corC a v p = ([], 1) := by unfold corC; rw [if_neg (by rw [h]; decide)]
set_option maxRecDepth 100000 in
set_option maxHeartbeats 8000000 in
theorem lcorrect_any (m v : List (List RD)) (a b : Option Addr) (c d : Nat) (p : Int) (w : World) (hm : RowN w a m) (hv : RowN w b v) (hl : m.length ≤ 1100000) (hl2 : v.length ≤ 1100000) (hT : Tab w) :
    Calls Tryz.prog 8 #[.slice a m.length c, .slice b v.length d, .int .i64 p] w (MatE w (corC m v p).1 (corC m v p).2) := by
  have HM := Lib.hid hm
  have HV := Lib.hid hv
  have HT := Lib.hid hT
  obtain ⟨D, hD⟩ : ∃ D, D = corC m v p := ⟨_, rfl⟩
  have HD := Lib.hid hD
  rw [← hD]
  clear hm hv hT hD
  go_enter Tryz.func8, Tryz.ntmps8
  go_wp2_with fail
  go_fit (lprecise_any p _)
  rintro e w0 ⟨rfl, rfl⟩
  cases hp : preB p with
  | false =>
    have HE := Lib.hid (show D = ([], 1) by rw [HD.out]; refine corB_off ?_; unfold corB; rw [hp]; rfl)
    clear hp
    go_wp2_with fail
    rw [HE.out]
    refine bodyPost_ret (v := .tuple #[.slice none 0 0, .int .i64 1]) (by simp [results, Tryz.results8, go_sem]) rfl ?_
    exact matE_nil rfl (Kp.refl _)
  | true =>
  have HP := Lib.hid hp
  clear hp
  go_wp2_with fail
  go_fit (lnumbers_any m a c _ HM.out hl)
  rintro e w1 ⟨rfl, k1⟩
  cases hs : sqN m with
  | false =>
    have HE := Lib.hid (show D = ([], 1) by rw [HD.out]; refine corB_off ?_; unfold corB; rw [HP.out, hs]; rfl)
    clear hs
    go_wp2_with fail
    rw [HE.out]
    refine bodyPost_ret (v := .tuple #[.slice none 0 0, .int .i64 1]) (by simp [results, Tryz.results8, go_sem]) rfl ?_
    exact matE_nil rfl k1
  | true =>
  have HS := Lib.hid hs
  have HK1 := Lib.hid k1
  clear hs
  go_wp2_with fail
  go_fit (lnumbers_any v b d _ (HV.out.kp HK1.out) hl2)
  rintro e w2 ⟨rfl, k2⟩
  have HK2 := Lib.hid (HK1.out.trans k2)
  clear k1 k2 HK1
  cases hs : sqN v with
  | false =>
    have HE := Lib.hid (show D = ([], 1) by rw [HD.out]; refine corB_off ?_; unfold corB; rw [HP.out, HS.out, hs]; rfl)
    clear hs
    go_wp2_with fail
    rw [HE.out]
    refine bodyPost_ret (v := .tuple #[.slice none 0 0, .int .i64 1]) (by simp [results, Tryz.results8, go_sem]) rfl ?_
    exact matE_nil rfl HK2.out
  | true =>
  have HS2 := Lib.hid hs
  clear hs
  by_cases hlen : m.length = v.length
  rotate_left
  · have HE := Lib.hid (show D = ([], 1) by rw [HD.out]; refine corB_off ?_; unfold corB; rw [HP.out, HS.out, HS2.out, decide_eq_false hlen]; rfl)
    have hne : ((m.length : Int) != (v.length : Int)) = true := by rw [bne, beq_eq_false_iff_ne.2 (by omega)]; rfl
    clear hlen
    go_wp2_with fail
    rw [HE.out]
    refine bodyPost_ret (v := .tuple #[.slice none 0 0, .int .i64 1]) (by simp [results, Tryz.results8, go_sem]) rfl ?_
    exact matE_nil rfl HK2.out
  have hne : ((m.length : Int) != (v.length : Int)) = false := by rw [hlen]; simp
  obtain ⟨q, hq⟩ : ∃ q : Nat, q = p.toNat := ⟨_, rfl⟩
  have hpq : p = (q : Int) := by have := preB_iff.1 HP.out; omega
  have hq0 : 8 ≤ q := by have := preB_iff.1 HP.out; omega
  have hq1 : q ≤ 512 := by have := preB_iff.1 HP.out; omega
  have HLN := Lib.hid hlen
  have HN := Lib.hid (sqN_cols HS.out).2.2
  have HE0 := Lib.hid (show D = corO m v q (corD m v q) by
    rw [HD.out]; unfold corC
    rw [if_pos (by unfold corB; rw [HP.out, HS.out, HS2.out, decide_eq_true hlen]; rfl), ← hq])
  rw [hpq]
  clear hlen hq hpq HD
  go_wp2_with fail
  go_fit (mof_any b v d _ (HV.out.kp HK2.out) hl2)
  rintro e w3 ⟨a3, Z, c3, rfl, hZ, pZ, oZ, lZ, k3⟩
  have HK3 := Lib.hid (HK2.out.trans k3)
  have HZ := Lib.hid (And.intro hZ (And.intro ((pZ.trans (ofF_sq HS2.out)).trans (by rw [← HLN.out])) oZ))
  have HlZ := Lib.hid lZ
  clear hZ pZ oZ k3 HK2 lZ
  go_wp2_with fail
  go_fit (mof_any a m c _ (HM.out.kp HK3.out) hl)
  rintro e w4 ⟨a4, Y, c4, rfl, hY, pY, oY, lY, k4⟩
  have HK4 := Lib.hid (HK3.out.trans k4)
  have HT4 := Lib.hid (HT.out.kp HK4.out)
  have HB := Lib.hid (by
    obtain ⟨hZ, pZ, oZ⟩ := HZ.out
    have pY2 := pY.trans (ofF_sq HS.out)
    have hn := HN.out
    have := lbound_any Z Y a3 a4 c3 c4 m.length q w4 (hZ.kp k4) hY (vlM_tab pZ oZ hn hn) (vlM_tab pY2 oY hn hn) (tab_len pZ) (colsM_tab pZ hn.1) (tab_len pY2) (colsM_tab pY2 hn.1) hq0 hq1 HT4.out
    rw [show bndQ (resQ m.length q (atP Z) (atP Y)) q = corD m v q by
      rw [corD_eq]
      exact congrArg (fun x => bndQ x q) (resQ_congr hn.1 (fun i j hi hj => atP_tab pZ hi hj) (fun i j hi hj => atP_tab pY2 hi hj))] at this
    exact this)
  have HCp := Lib.hid (show ∀ x, corD m v q = some x → x.ok ∧ 0 ≤ x.iv from fun x hx => bndQ_pos hq0 hq1 ((corD_eq m v q).symm.trans hx))
  have HZ4 := Lib.hid (HZ.out.1.kp k4)
  clear hY pY oY k4 HK3 lY
  obtain ⟨C, hC⟩ : ∃ C, C = corD m v q := ⟨_, rfl⟩
  rw [← hC] at HB HE0 HCp
  clear hC
  go_wp2_with fail
  go_fit HB.out
  rintro e w5 ⟨y, rfl, yr, yd, yv, k5⟩
  have kA := (Kp.refl w5).alloc (.cells #[.bool y.neg, .slice y.a y.xs.length y.c, .int .i64 y.e] 42)
  have HK5 := Lib.hid (HK4.out.trans (k5.trans kA))
  cases C with
  | none =>
    have HE := Lib.hid (show D = ([], 15) by rw [HE0.out]; rfl)
    clear yd
    go_wp2_with fail
    rw [HE.out]
    refine bodyPost_ret (v := .tuple #[.slice none 0 0, .int .i64 15]) (by simp [results, Tryz.results8, go_sem]) rfl ?_
    exact matE_nil rfl HK5.out
  | some dd =>
  have HE := Lib.hid (show D = (corF m v q dd, 0) by rw [HE0.out]; rfl)
  have HY := Lib.hid (And.intro (show y.ok (w5.alloc (.cells #[.bool y.neg, .slice y.a y.xs.length y.c, .int .i64 y.e] 42)) from ⟨yr.kp kA, yv⟩) (show y.dy = dd from yd))
  have HYp := Lib.hid (show 0 ≤ y.dy.iv by rw [HY.out.2]; exact (HCp.out dd rfl).2)
  have hy3 : (w5.alloc (.cells #[.bool y.neg, .slice y.a y.xs.length y.c, .int .i64 y.e] 42)).cell? ⟨w5.heap.size, 0, none⟩ = some (.bool y.neg) ∧ (w5.alloc (.cells #[.bool y.neg, .slice y.a y.xs.length y.c, .int .i64 y.e] 42)).cell? ⟨w5.heap.size, 1, none⟩ = some (.slice y.a y.xs.length y.c) ∧ (w5.alloc (.cells #[.bool y.neg, .slice y.a y.xs.length y.c, .int .i64 y.e] 42)).cell? ⟨w5.heap.size, 2, none⟩ = some (.int .i64 y.e) := by simp
  have HZ5 := Lib.hid (HZ4.out.kp (k5.trans kA))
  have HT5 := Lib.hid (HT4.out.kp (k5.trans kA))
  clear yd yr yv k5 kA HT4 HK4 HB HE0 HCp
  go_upto_region 6 with fail
  generalize hW5 : w5.alloc _ = W5 at *
  clear hW5
  generalize w5.heap.size = b8 at *
  have KJ := Lib.hid (Kp.refl W5).drew
  have hSd := keep3 KJ.out hy3
  have HS6 := Lib.hid hy3
  clear hy3
  go_region_held3 (fun w' => w'.cell? ⟨b8, 0, none⟩ = some (.bool y.neg) ∧ w'.cell? ⟨b8, 1, none⟩ = some (.slice y.a y.xs.length y.c) ∧ w'.cell? ⟨b8, 2, none⟩ = some (.int .i64 y.e)) (first | with_reducible assumption | with_reducible exact keep3 (by assumption) (by assumption) | fail)
    (first
      | (go_at_call 33; (with_reducible refine (midn_any m.length _ HN.out.1 HN.out.2 (HT5.out.kp KJ.out)).mono ?_); rintro e v1 ⟨aJ, J, cJ, rfl, hJ, pJ, oJ, lJ, j1⟩
         have HJ := Lib.hid (And.intro hJ (And.intro pJ oJ))
         have HlJ := Lib.hid lJ
         replace KJ := Lib.hid (KJ.out.trans j1)
         clear hJ pJ oJ lJ
         have hSn := keep3 KJ.out HS6.out)
      | (go_at_call 34; (with_reducible refine (laround_any m.length y _ HN.out.1 HN.out.2 (HY.out.1.kp KJ.out) HYp.out).mono ?_); rintro e v2 ⟨aR, R, cR, rfl, hR, pR, oR, lR, j1⟩
         have HR := Lib.hid (And.intro hR (And.intro pR oR))
         have HlR := Lib.hid lR
         replace KJ := Lib.hid (KJ.out.trans j1)
         have HJ2 := Lib.hid (HJ.out.1.kp j1)
         clear hR pR oR lR
         have HAdd := Lib.hid (madd_any aJ aR J R cJ cR (q : Int) v2 HJ2.out HR.out.1 HlJ.out HlR.out (HT5.out.kp KJ.out))
         have hSn := keep3 KJ.out HS6.out)
      | (go_at_call 32; (with_reducible refine HAdd.out.mono ?_); rintro e v3 ⟨aS, S, cS, rfl, hS, pS, oS, lS, j1⟩
         replace KJ := Lib.hid (KJ.out.trans j1)
         have hSn := keep3 KJ.out HS6.out)
      | fail)
  have HE3 := Lib.hid (show entC (fun q X Y => pAdd X Y q) J R (q : Int) = (tabM m.length m.length (fun i j => pAdd (idP i j) ⟨dd.opp, dd, false⟩ q), 0) from by
    obtain ⟨_, pJ, oJ⟩ := HJ.out
    obtain ⟨_, pR, oR⟩ := HR.out
    have hn := HN.out
    rw [entC_sq (vlM_tab pJ oJ hn hn) (vlM_tab pR oR hn hn) (tab_len pJ) (colsM_tab pJ hn.1) (tab_len pR) (colsM_tab pR hn.1) hq0 hq1]
    refine congrArg (fun m => (m, (0 : Int))) (tabM_congr fun i j hi hj => ?_)
    rw [atP_tab pJ hi hj, atP_tab pR hi hj, HY.out.2])
  rw [HE3.out]
  rw [HE3.out] at pS
  have HSS := Lib.hid (And.intro hS (And.intro pS oS))
  have HlS := Lib.hid lS
  have HV9 := Lib.hid (HV.out.kp (HK5.out.trans KJ.out))
  have HK9 := Lib.hid (HK5.out.trans KJ.out)
  clear hS pS oS lS j1 hSn hSd HE3 HAdd HJ2 HR HlR HJ HlJ
  go_wp2_with fail
  go_fit (mof_any b v d _ HV9.out hl2)
  rintro e w6 ⟨a6, U, c6, rfl, hU, pU, oU, lU, k6⟩
  have HS6 := Lib.hid (HSS.out.1.kp k6)
  have HK10 := Lib.hid (HK9.out.trans k6)
  have HMu := Lib.hid (mmul_any aS a6 S U cS c6 (q : Int) w6 HS6.out hU HlS.out lU (HT.out.kp HK10.out))
  have HE4 := Lib.hid (show mulC S U (q : Int) = (corF m v q dd, 0) from by
    obtain ⟨_, pS, oS⟩ := HSS.out
    have pU2 := (pU.trans (ofF_sq HS2.out)).trans (show tabM v.length v.length _ = tabM m.length m.length _ by rw [← HLN.out])
    have hn := HN.out
    rw [mulC_sq (vlM_tab pS oS hn hn) (vlM_tab pU2 oU hn hn) (tab_len pS) (colsM_tab pS hn.1) (tab_len pU2) (colsM_tab pU2 hn.1) hq0 hq1]
    unfold corF
    refine congrArg (fun m => (m, (0 : Int))) (tabM_congr fun i j hi hj => ?_)
    exact dotF_congr _ fun t ht => ⟨atP_tab pS hi (by omega), atP_tab pU2 (by omega) hj⟩)
  rw [HE4.out] at HMu
  clear hU pU oU lU k6 HE4 HSS
  go_wp2_with fail
  go_fit HMu.out
  rintro e w7 ⟨a7, X, c7, rfl, hX, pX, oX, lX, k7⟩
  have HX := Lib.hid (And.intro hX (And.intro pX (And.intro oX lX)))
  have HK11 := Lib.hid (HK10.out.trans k7)
  clear hX pX oX lX k7
  go_wp2_with fail
  rw [HE.out]
  refine bodyPost_ret (v := .tuple #[.slice a7 X.length c7, .int .i64 0]) (by simp [results, Tryz.results8, go_sem]) rfl ?_
  exact ⟨a7, X, c7, rfl, HX.out.1, HX.out.2.1, HX.out.2.2.1, HX.out.2.2.2, HK11.out⟩
def RowZ (w : World) (a : Option Addr) (xs : List Int) : Prop :=
  ∀ i x, xs[i]? = some x → ∃ b o, a = some ⟨b, o, none⟩ ∧ w.cell? ⟨b, o + i, none⟩ = some (.int .i64 x)
theorem RowZ.kp {w w' : World} {a : Option Addr} {xs : List Int} (h : RowZ w a xs) (k : Kp w w') : RowZ w' a xs := fun i x hi => by
  obtain ⟨b, o, e, hc⟩ := h i x hi
  exact ⟨b, o, e, k.cell hc⟩
def RowZZ (w : World) (a : Option Addr) (m : List (List Int)) : Prop :=
  ∀ i r, m[i]? = some r → ∃ b o ra rc, a = some ⟨b, o, none⟩ ∧ w.cell? ⟨b, o + i, none⟩ = some (.slice ra r.length rc) ∧ RowZ w ra r
theorem RowZZ.kp {w w' : World} {a : Option Addr} {m : List (List Int)} (h : RowZZ w a m) (k : Kp w w') : RowZZ w' a m := fun i r hi => by
  obtain ⟨b, o, ra, rc, e, hc, hr⟩ := h i r hi
  exact ⟨b, o, ra, rc, e, k.cell hc, hr.kp k⟩
def dyM (Z : List (List RD)) : List (List Dy) := Z.map fun r => r.map RD.dy
def intM (m : List (List Int)) : List (List Dy) := m.map fun r => r.map intD
def NumV (w : World) (X : List (List Dy)) (e : Ending) (w' : World) : Prop :=
  ∃ (a : Option Addr) (Z : List (List RD)) (c : Nat), e = .returned (.slice a Z.length c) ∧ RowN w' a Z ∧ dyM Z = X ∧ (∀ r ∈ Z, ∀ x ∈ r, x.vl = true) ∧ Z.length ≤ 1100000 ∧ Kp w w'
set_option maxRecDepth 100000 in
set_option maxHeartbeats 8000000 in
theorem numbers8_any (m : List (List Int)) (a : Option Addr) (c : Nat) (w : World) (hm : RowZZ w a m) (hl : m.length ≤ 8) (hr : ∀ r ∈ m, r.length ≤ 8 ∧ ∀ x ∈ r, x.natAbs ≤ 9000000) :
    Calls Tryz.prog 23 #[.slice a m.length c] w (NumV w (intM m)) := by
  have HM := Lib.hid hm
  have HR := Lib.hid hr
  clear hm hr
  go_enter Tryz.func23, Tryz.ntmps23
  go_wp2_with fail
  go_loopg [3, 11] m.length (fun z v x wr => ∃ (R : List (List RD)) (us : List Value), R.length + z = m.length ∧ x = .int .i64 (R.length : Int) ∧ OwnX 0 w wr v us R ∧ dyM R = intM (m.take R.length) ∧ ∀ r ∈ R, ∀ x ∈ r, x.vl = true)
  case atStart => exact ⟨[], [], by simp, rfl, OwnX.nil (Kp.refl _) (Nat.zero_le _), by simp [dyM, intM], fun r h => by simp at h⟩
  case round =>
  obtain ⟨R, us, hRq, rfl, hO, hpl, hok⟩ := hrel
  have HH := Lib.hid (And.intro hpl hok)
  have HO := Lib.hid hO
  have hkr := hO.1.1
  clear hpl hok hO
  by_cases hlt : R.length < m.length
  rotate_left
  · have hRe : R.length = m.length := by omega
    obtain ⟨va, vc, rfl, hvc1, hvc2, hrm⟩ := HO.out.value
    have HRe := Lib.hid (And.intro hRe hrm)
    clear hRe hRq hrm
    go_wp2_with fail
    refine bodyPost_ret (v := .slice va R.length vc) (by simp [results, Tryz.results23, go_sem]) rfl ?_
    refine ⟨va, R, vc, rfl, HRe.out.2.row, ?_, HH.out.2, by have := HRe.out.1; omega, hkr⟩
    rw [HH.out.1, HRe.out.1, List.take_length]
  have Hlt := Lib.hid (And.intro hlt hRq)
  obtain ⟨r, hr⟩ : ∃ r, m[R.length]? = some r := ⟨_, List.getElem?_eq_getElem hlt⟩
  obtain ⟨b2, o2, ra2, rc2, e2, hrc, hrw⟩ := HM.out R.length r hr
  cases e2
  have HRV := Lib.hid (HR.out r (List.mem_of_getElem? hr))
  have hr8 : r.length ≤ 8 := HRV.out.1
  have hrc1 := hkr.cell hrc
  have HRW := Lib.hid hrw
  have Hr := Lib.hid hr
  have hk1 : (0 : Int) ≤ (R.length : Int) := by omega
  have hk2 : (R.length : Int) < (m.length : Int) := by omega
  clear hRq hr hrc hrw
  go_wp2_with fail
  obtain ⟨gk1, hgk1⟩ : ∃ x : Nat, x = gk := ⟨_, rfl⟩
  subst hgk1
  obtain ⟨wi, hwi⟩ : ∃ x : World, x = wr := ⟨_, rfl⟩
  subst hwi
  have HKI := Lib.hid hkr
  clear hkr hrc1
  go_loopg [6, 17] r.length (fun z u x wr => ∃ cur : List RD, cur.length + z = r.length ∧ x = .int .i64 (cur.length : Int) ∧ OwnE wi wr u cur ∧ cur.map RD.dy = (r.take cur.length).map intD ∧ ∀ x ∈ cur, x.vl = true)
  case atStart => exact ⟨[], by simp, rfl, OwnE.nil (Kp.refl _), by simp, fun x h => by simp at h⟩
  case round =>
  obtain ⟨cur, hcq, rfl, hown0, hpc, hvc⟩ := hrel
  have hki := HKI.out.trans hown0.1
  by_cases hlt2 : cur.length < r.length
  rotate_left
  · have hce : cur.length = r.length := by omega
    obtain ⟨ua, uc, rfl, huc, hum, hurow⟩ := hown0.value
    have kA := (Kp.refl wr).alloc (.cells #[.slice ua cur.length uc] 61)
    have HOA := HO.out.kp (hown0.1.trans kA)
    have hrs := OwnE.row (S := 0) hown0 (Nat.zero_le _) rfl hurow HO.out.new
    have HPC := Lib.hid (And.intro hpc (And.intro hvc hce))
    have hcl2 : cur.length ≤ 1100000 := by omega
    have hRl : R.length + 1 ≤ 9000000 := by omega
    have hrsA := hrs.1.kp kA
    have hoffA := hrs.2.kp kA.size
    clear hpc hvc hcq hown0 huc hum hurow hki kA hce hrs
    go_wp2_with (at_builtin; refine wpList_append_rowx rfl _ _ rfl 0 w _ us R rfl HOA _ _ rfl ua uc cur hrsA hoffA hcl2 (by simp) hRl ?_; intro v' us' w9 hM9)
    go_roundg (gk1 - 1)
    case measure => have := Hlt.out; omega
    case rel =>
    refine ⟨R ++ [cur], us', by have := Hlt.out; rw [List.length_append, List.length_singleton]; omega, by rw [List.length_append, List.length_singleton]; go_num, hM9, ?_, fun r h => ?_⟩
    · have e : cur.map RD.dy = r.map intD := by rw [HPC.out.1, HPC.out.2.2, List.take_length]
      have e1 : dyM (R ++ [cur]) = dyM R ++ [cur.map RD.dy] := by unfold dyM; rw [List.map_append]; rfl
      rw [e1, HH.out.1, List.length_append, List.length_singleton, List.take_add_one, Hr.out, e]
      unfold intM
      rw [List.map_append]; rfl
    rcases List.mem_append.1 h with h | h
    · exact HH.out.2 r h
    rw [List.mem_singleton.1 h]; exact HPC.out.2.1
  obtain ⟨x, hx⟩ : ∃ x, r[cur.length]? = some x := ⟨_, List.getElem?_eq_getElem hlt2⟩
  obtain ⟨b3, o3, e3, hx0⟩ := (HRW.out.kp hki) cur.length x hx
  subst e3
  have HPC := Lib.hid (And.intro hpc (And.intro hvc (And.intro hcq hlt2)))
  have HXB := Lib.hid (HRV.out.2 x (List.mem_of_getElem? hx))
  have Hx := Lib.hid hx
  have hj1 : (0 : Int) ≤ (cur.length : Int) := by omega
  have hj2 : (cur.length : Int) < (r.length : Int) := by omega
  have hcl : cur.length + 1 ≤ 9000000 := by omega
  have HOW := Lib.hid hown0
  clear hx hpc hvc hcq hown0 hki
  go_wp2_with fail
  go_fit (d8_any x _ HXB.out)
  rintro e v2 ⟨y, rfl, yo, yd, j2⟩
  have kY := (Kp.refl v2).alloc (.cells #[.bool y.neg, .slice y.a y.xs.length y.c, .int .i64 y.e] 42)
  have hown := HOW.out.kp (j2.trans kY)
  have hyA := (yo.kp kY).1
  have HY := Lib.hid (And.intro yo.2 yd)
  clear kY yo yd hx0
  go_wp2_with (at_builtin; refine wpList_append_dyn rfl _ _ rfl wi _ cur rfl hown _ _ rfl y hyA (by simp) hcl ?_; intro a' c' w9 hown9 hbel hgrow)
  go_roundg (gk - 1)
  case measure => have := HPC.out.2.2; omega
  case rel =>
  refine ⟨cur ++ [y], by have := HPC.out.2.2; rw [List.length_append, List.length_singleton]; omega, by rw [List.length_append, List.length_singleton]; go_num, by simpa using hown9, ?_, vl_snocD HPC.out.2.1 HY.out.1⟩
  rw [List.map_append, HPC.out.1, List.length_append, List.length_singleton, List.take_add_one, Hx.out, List.map_append]
  show _ ++ [y.dy] = _ ++ [intD x]
  rw [HY.out.2]
theorem infoZ : (Tryz.prog.info? 3).map (fun i => (i.zero, i.size, i.bytes)) = some (some (.int .i64 0), 1, 8) := by kernel_rfl
theorem infoSlZ : (Tryz.prog.info? 51).map (fun i => (i.zero, i.size, i.bytes)) = some (some (.slice none 0 0), 1, 24) := by kernel_rfl
theorem noU_int (x : Int) : NoU (.int .i64 x) := fun y e => by cases e
theorem noU_slice (a : Option Addr) (n c : Nat) : NoU (.slice a n c) := fun y e => by cases e
def OwnZ (wb w : World) (v : Value) (xs : List Int) : Prop :=
  Kp wb w ∧ w.ownsRow wb.heap.size 3 1 v xs.length (xs.map (Value.int .i64)) ∧ AllC NoU w v
theorem OwnZ.nil {wb w : World} (k : Kp wb w) : OwnZ wb w (.slice none 0 0) [] := ⟨k, World.ownsRow_nil _ _ _ _, AllC.nil _ _⟩
theorem OwnZ.kp {wb w w' : World} {v : Value} {xs : List Int} (h : OwnZ wb w v xs) (k : Kp w w') : OwnZ wb w' v xs := ⟨h.1.trans k, Kp.owns h.2.1 k, h.2.2.kp h.2.1 k⟩
theorem OwnZ.new {wb w : World} {v : Value} {xs : List Int} (h : OwnZ wb w v xs) : ∀ g, v.ownBlock = some g → wb.heap.size ≤ g ∧ g < w.heap.size := fun g hg => h.2.1.lt g hg
theorem OwnZ.value {wb w : World} {v : Value} {xs : List Int} (h : OwnZ wb w v xs) (h0 : 0 < xs.length) : ∃ b c, v = .slice (some ⟨b, 0, none⟩) xs.length c ∧ ∀ j x, xs[j]? = some x → w.cell? ⟨b, j, none⟩ = some (.int .i64 x) ∧ w.frozen? ⟨b, j, none⟩ = false := by
  obtain ⟨h1, ⟨h2, h3⟩, h6⟩ := h
  rcases h3 with ⟨rfl, h3⟩ | ⟨g, cap, cur, rfl, hb, hg, hn, hc, hs, ht⟩
  · omega
  refine ⟨g, cap, rfl, fun j x hj => ⟨?_, frozen_of_row _ _ _ _ _ hg⟩⟩
  have hil : j < xs.length := (List.getElem?_eq_some_iff.1 hj).1
  rw [cell_of_row w g _ cur _ _ hg]
  have h5 : (cur.toList.take (xs.length * 1))[j]? = some (.int .i64 x) := by rw [ht, List.getElem?_map, hj]; rfl
  rw [List.getElem?_take, if_pos (by omega)] at h5
  simpa using h5
theorem OwnZ.store {wb w : World} {v : Value} {xs : List Int} (h : OwnZ wb w v xs) {g i : Nat} (hg : wb.heap.size ≤ g) (hv : v.ownBlock ≠ some g) (y : Value) : OwnZ wb (w.setCell ⟨g, i, none⟩ y) v xs := by
  obtain ⟨h1, h2, h3⟩ := h
  refine ⟨h1.set hg y, ownsRow_setCell_other h2 hv y, fun b hb j z hz => ?_⟩
  rw [cell_set_ne (fun e => by injection e with e1; subst e1; exact hv hb)] at hz
  exact h3 b hb j z hz
theorem OwnZ.noU {wb w : World} {v : Value} {xs : List Int} (h : OwnZ wb w v xs) : NoU v := by
  obtain ⟨_, ⟨_, h3⟩, _⟩ := h
  rcases h3 with ⟨rfl, _⟩ | ⟨g, cap, cur, rfl, _⟩ <;> exact noU_slice _ _ _
theorem wpList_append_int {w : World} {ops : Array Oper} {rest : List Oper} {o : Oper} {a : Act} {Q : Exit → Act → World → Prop} (hgd : o.guard = none) (s x : Operand)
    (ho : o.op = .call { callee := .builtin .append, args := #[s, x], argTypes := #[51, 51] })
    (wb : World) (v : Value) (xs : List Int) (hs : a.eval s = v) (hown : OwnZ wb w v xs)
    (g c : Nat) (hx : a.eval x = .slice (some ⟨g, 0, none⟩) 1 c) (y : Int) (hcell : w.cell? ⟨g, 0, none⟩ = some (.int .i64 y)) (hlen : xs.length + 1 ≤ 9000000)
    (h : ∀ a' c' w', OwnZ wb w' (.slice a' (xs.length + 1) c') (xs ++ [y]) → w.grownBy w' v.ownBlock → (v.ownBlock = (Value.slice a' (xs.length + 1) c').ownBlock ∨ (Value.slice a' (xs.length + 1) c').ownBlock = some w.heap.size) → wpList Tryz.prog ops Q rest (a.put o.dst (.slice a' (xs.length + 1) c')) w') :
    wpList Tryz.prog ops Q (o :: rest) a w := by
  obtain ⟨i0, hi, hz0, hz1, hz2⟩ := info_parts infoZ
  obtain ⟨hk, hown1, hall⟩ := hown
  refine wpList_append_all w NoU hgd s x 51 ho wb.heap.size 3 i0 (.int .i64 0) 1 8 Tryz.underlying51 hi hz0 hz1 hz2 rfl (by decide) v xs.length (xs.map (Value.int .i64)) hs hown1
    ⟨g, 0, none⟩ 1 c [.int .i64 y] hx rfl ?_ ?_ (by decide) (by unfold maxLen; omega) (by omega) hk.size hall ?_ ?_ ?_
  · intro j u hj
    match j, hj with
    | 0, hj => cases hj; simpa [Addr.add] using hcell
    | j + 1, hj => simp at hj
  · intro u hu
    simp only [List.mem_cons, List.not_mem_nil, or_false] at hu
    subst hu; rfl
  · intro u hu
    simp only [List.mem_cons, List.not_mem_nil, or_false] at hu
    subst hu; exact noU_int _
  · intro u hu
    simp [Value.cells] at hu
    subst hu; exact noU_int _
  intro g' cap w' h1 h2 h3 h6
  have hb : Below wb.heap.size w w' := (Below.refl wb.heap.size w).grown h2 hk.size (fun k hk => (hown1.lt k hk).1)
  refine h _ _ w' ⟨Below.trans hk hb, ?_, h6⟩ h2 ?_
  · rw [List.map_append, List.length_append]
    simpa using h1
  rcases h3 with h3 | h3
  · exact .inl h3
  subst h3; exact .inr rfl
def RowsZ (wb w : World) (g : Nat) (m : List (List Int)) (bs : Nat → Nat) : Prop :=
  (∀ i r, m[i]? = some r → ∃ c, w.cell? ⟨g, i, none⟩ = some (.slice (some ⟨bs i, 0, none⟩) r.length c)) ∧
  (∀ i r, m[i]? = some r → wb.heap.size ≤ bs i ∧ bs i < w.heap.size ∧ bs i ≠ g ∧ ∀ j x, r[j]? = some x → w.cell? ⟨bs i, j, none⟩ = some (.int .i64 x) ∧ w.frozen? ⟨bs i, j, none⟩ = false) ∧
  ∀ i j, i < m.length → j < m.length → bs i = bs j → i = j
def GridZ (wb w : World) (g : Nat) (m : List (List Int)) (bs : Nat → Nat) : Prop := (wb.heap.size ≤ g ∧ g < w.heap.size) ∧ Kp wb w ∧ RowsZ wb w g m bs
theorem RowsZ.kp {wb w w' : World} {g : Nat} {m : List (List Int)} {bs : Nat → Nat} (h : RowsZ wb w g m bs) (k : Kp w w') : RowsZ wb w' g m bs := by
  obtain ⟨h1, h2, h3⟩ := h
  refine ⟨fun i r hi => ?_, fun i r hi => ?_, h3⟩
  · obtain ⟨c, hc⟩ := h1 i r hi
    exact ⟨c, k.cell hc⟩
  obtain ⟨q1, q2, q3, q4⟩ := h2 i r hi
  exact ⟨q1, by have := k.size; omega, q3, fun j x hj => ⟨k.cell (q4 j x hj).1, by rw [k.below.frozen q2]; exact (q4 j x hj).2⟩⟩
theorem GridZ.kp {wb w w' : World} {g : Nat} {m : List (List Int)} {bs : Nat → Nat} (h : GridZ wb w g m bs) (k : Kp w w') : GridZ wb w' g m bs :=
  ⟨⟨h.1.1, by have := k.size; have := h.1.2; omega⟩, h.2.1.trans k, h.2.2.kp k⟩
theorem GridZ.row {wb w : World} {g : Nat} {m : List (List Int)} {bs : Nat → Nat} (h : GridZ wb w g m bs) : RowZZ w (some ⟨g, 0, none⟩) m := by
  intro i r hi
  obtain ⟨c, hc⟩ := h.2.2.1 i r hi
  refine ⟨g, 0, _, c, rfl, by rw [Nat.zero_add]; exact hc, fun j x hj => ⟨bs i, 0, rfl, ?_⟩⟩
  rw [Nat.zero_add]
  exact ((h.2.2.2.1 i r hi).2.2.2 j x hj).1
def OutZ (wb w : World) (g n : Nat) (R : List (List Int)) (bs : Nat → Nat) (v : Value) (cur : List Int) : Prop :=
  (wb.heap.size ≤ g ∧ g < w.heap.size ∧ R.length < n ∧ v.ownBlock ≠ some g) ∧ OwnZ wb w v cur ∧ w.cell? ⟨g, R.length, none⟩ = some v ∧
  (∀ i, i < n → w.frozen? ⟨g, i, none⟩ = false) ∧ (∀ i, R.length < i → i < n → w.cell? ⟨g, i, none⟩ = some (.slice none 0 0)) ∧
  RowsZ wb w g R bs ∧ ∀ i, i < R.length → v.ownBlock ≠ some (bs i)
def OutY (wb w : World) (g n : Nat) (R : List (List Int)) (bs : Nat → Nat) : Prop :=
  (wb.heap.size ≤ g ∧ g < w.heap.size ∧ R.length ≤ n) ∧ Kp wb w ∧
  (∀ i, i < n → w.frozen? ⟨g, i, none⟩ = false) ∧ (∀ i, R.length ≤ i → i < n → w.cell? ⟨g, i, none⟩ = some (.slice none 0 0)) ∧ RowsZ wb w g R bs
theorem OutY.made (w : World) (n : Nat) : OutY w (w.alloc (.cells (madeCells #[.slice none 0 0] n) 51)) w.heap.size n [] (fun _ => 0) := by
  have hg := heap_alloc_new w (.cells (madeCells #[.slice none 0 0] n) 51)
  refine ⟨⟨Nat.le_refl _, by simp, by simp⟩, (Kp.refl w).alloc _, fun i _ => frozen_of_row _ _ _ _ _ hg, fun i _ hi => ?_, fun i r h => by simp at h, fun i r h => by simp at h, fun i j h => by simp at h⟩
  rw [cell_of_row _ _ _ _ _ _ hg, ← Array.getElem?_toList, toList_madeCells_one]
  simp [hi]
theorem make_rowsZ (i : Int) (n : Nat) (e : i = n) (hn : n ≤ 9000000) (u : World) : (Instr.makeSlice 49 (.int .i64 i) (.int .i64 i)).run Tryz.prog u =
    .ok (.slice (some ⟨u.heap.size, 0, none⟩) n n) (u.alloc (.cells (madeCells #[.slice none 0 0] n) 51)) := by
  subst e
  obtain ⟨i0, hi, hz0, hz1, hz2⟩ := info_parts infoSlZ
  have h := run_make (P := Tryz.prog) u 49 51 i0 (.slice none 0 0) Tryz.underlying49 hi hz0 .i64 .i64 (n : Int) (n : Int) (by omega) (Int.le_refl _) (by rw [hz2]; omega) (by omega)
  simpa [hz1, Value.cells] using h
theorem OutY.open {wb w : World} {g n : Nat} {R : List (List Int)} {bs : Nat → Nat} (h : OutY wb w g n R bs) (hn : R.length < n) : OutZ wb w g n R bs (.slice none 0 0) [] := by
  obtain ⟨⟨h1, h2, h3⟩, hk, hf, hz, hr⟩ := h
  exact ⟨⟨h1, h2, hn, by simp [Value.ownBlock]⟩, .nil hk, hz _ (Nat.le_refl _) hn, hf, fun i h h' => hz i (by omega) h', hr, fun i _ => by simp [Value.ownBlock]⟩
theorem OutY.grid {wb w : World} {g n : Nat} {R : List (List Int)} {bs : Nat → Nat} (h : OutY wb w g n R bs) : GridZ wb w g R bs := ⟨⟨h.1.1, h.1.2.1⟩, h.2.1, h.2.2.2.2⟩
theorem OutZ.close {wb w : World} {g n : Nat} {R : List (List Int)} {bs : Nat → Nat} {v : Value} {cur : List Int} (h : OutZ wb w g n R bs v cur) (hc : 0 < cur.length) : ∃ bs', OutY wb w g n (R ++ [cur]) bs' := by
  obtain ⟨⟨h1, h2, h3, h4⟩, ho, hv, hf, hz, hr, hd⟩ := h
  obtain ⟨b, c, rfl, hcell⟩ := ho.value hc
  have hn := ho.new b rfl
  have hbd : ∀ i, i < R.length → bs i ≠ b := fun i hi e => hd i hi (by rw [e]; rfl)
  have hbg : b ≠ g := fun e => h4 (by rw [e]; rfl)
  obtain ⟨B, e1, e2⟩ : ∃ B : Nat → Nat, B R.length = b ∧ ∀ i, i < R.length → B i = bs i := ⟨fun i => if i = R.length then b else bs i, if_pos rfl, fun i hi => if_neg (by omega)⟩
  refine ⟨B, ⟨h1, h2, by simp; omega⟩, ho.1, hf, fun i h h' => hz i (by simp at h; omega) h', fun i r hi => ?_, fun i r hi => ?_, fun i j hi hj e => ?_⟩
  · by_cases hi2 : i < R.length
    · rw [List.getElem?_append_left hi2] at hi
      rw [e2 i hi2]; exact hr.1 i r hi
    rw [List.getElem?_append_right (by omega)] at hi
    have hi3 : i = R.length := by have := (List.getElem?_eq_some_iff.1 hi).1; simp at this; omega
    subst hi3
    simp at hi
    subst hi
    rw [e1]; exact ⟨c, hv⟩
  · by_cases hi2 : i < R.length
    · rw [List.getElem?_append_left hi2] at hi
      rw [e2 i hi2]; exact hr.2.1 i r hi
    rw [List.getElem?_append_right (by omega)] at hi
    have hi3 : i = R.length := by have := (List.getElem?_eq_some_iff.1 hi).1; simp at this; omega
    subst hi3
    simp at hi
    subst hi
    rw [e1]; exact ⟨hn.1, hn.2, hbg, hcell⟩
  rw [List.length_append, List.length_singleton] at hi hj
  by_cases h5 : i = R.length <;> by_cases h6 : j = R.length
  · omega
  · rw [h5, e1, e2 j (by omega)] at e; exact absurd e.symm (hbd j (by omega))
  · rw [h6, e1, e2 i (by omega)] at e; exact absurd e (hbd i (by omega))
  rw [e2 i (by omega), e2 j (by omega)] at e; exact hr.2.2 i j (by omega) (by omega) e
theorem OutZ.kp {wb w w' : World} {g n : Nat} {R : List (List Int)} {bs : Nat → Nat} {v : Value} {cur : List Int} (h : OutZ wb w g n R bs v cur) (k : Kp w w') : OutZ wb w' g n R bs v cur := by
  obtain ⟨⟨h1, h2, h3, h4⟩, ho, hv, hf, hz, hr, hd⟩ := h
  have hs := k.size
  exact ⟨⟨h1, by omega, h3, h4⟩, ho.kp k, k.cell hv, fun i hi => by rw [k.below.frozen h2]; exact hf i hi, fun i h h' => k.cell (hz i h h'), hr.kp k, hd⟩
theorem OutZ.cellF {wb w : World} {g n : Nat} {R : List (List Int)} {bs : Nat → Nat} {v : Value} {cur : List Int} (h : OutZ wb w g n R bs v cur) : w.cell? ⟨g, R.length, none⟩ = some v ∧ w.frozen? ⟨g, R.length, none⟩ = false := ⟨h.2.2.1, h.2.2.2.1 _ h.1.2.2.1⟩
theorem OutZ.cellG {wb w w' : World} {g n : Nat} {R : List (List Int)} {bs : Nat → Nat} {v : Value} {cur : List Int} (h : OutZ wb w g n R bs v cur) (hg : w.grownBy w' v.ownBlock) : w'.cell? ⟨g, R.length, none⟩ = some v ∧ w'.frozen? ⟨g, R.length, none⟩ = false := by
  obtain ⟨⟨h1, h2, h3, h4⟩, ho, hv, hf, hz, hr, hd⟩ := h
  refine ⟨hg.cell hv (fun e => h4 e.symm), ?_⟩
  have := hg.block g h2 (fun e => h4 e.symm)
  have hh := hf _ h3
  unfold World.frozen? at hh ⊢
  rw [this]; exact hh
theorem OutZ.step {wb w w' : World} {g n : Nat} {R : List (List Int)} {bs : Nat → Nat} {v v' : Value} {cur : List Int} {x : Int} (h : OutZ wb w g n R bs v cur)
    (ho : OwnZ wb w' v' (cur ++ [x])) (hg : w.grownBy w' v.ownBlock) (hv : v.ownBlock = v'.ownBlock ∨ v'.ownBlock = some w.heap.size) :
    OutZ wb (w'.setCell ⟨g, R.length, none⟩ v') g n R bs v' (cur ++ [x]) := by
  obtain ⟨⟨h1, h2, h3, h4⟩, ho0, hv0, hf, hz, hr, hd⟩ := h
  have hs : w.heap.size ≤ w'.heap.size := hg.size
  have hgn : v'.ownBlock ≠ some g := by
    rcases hv with hv | hv
    · rw [← hv]; exact h4
    · rw [hv]; intro e; injection e with e; omega
  have keep (i : Nat) (u : Value) (hc : w.cell? ⟨g, i, none⟩ = some u) : w'.cell? ⟨g, i, none⟩ = some u := hg.cell hc (fun e => h4 e.symm)
  have hv1 := keep _ _ hv0
  have hfr : ∀ b j, b < w.heap.size → v.ownBlock ≠ some b → w'.frozen? ⟨b, j, none⟩ = w.frozen? ⟨b, j, none⟩ := fun b j hb hne => by
    have := hg.block b hb (fun e => hne e.symm)
    unfold World.frozen?
    rw [this]
  refine ⟨⟨h1, by simpa using (by omega : g < w'.heap.size), h3, hgn⟩, ho.store h1 hgn v', cell_set_eq hv1, fun i hi => ?_, fun i h h' => ?_, ⟨fun i r hi => ?_, fun i r hi => ?_, hr.2.2⟩, fun i hi => ?_⟩
  · have := (hfr g i h2 h4).trans (hf i hi)
    simpa using this
  · rw [cell_set_ne (fun e => by injection e with _ e2; omega)]
    exact keep _ _ (hz i h h')
  · obtain ⟨c, hc⟩ := hr.1 i r hi
    have hir := (List.getElem?_eq_some_iff.1 hi).1
    exact ⟨c, by rw [cell_set_ne (fun e => by injection e with _ e2; omega)]; exact keep _ _ hc⟩
  · obtain ⟨q1, q2, q3, q4⟩ := hr.2.1 i r hi
    have hir := (List.getElem?_eq_some_iff.1 hi).1
    refine ⟨q1, by simpa using (by omega : bs i < w'.heap.size), q3, fun j y hj => ⟨?_, ?_⟩⟩
    · rw [cell_set_ne (fun e => by injection e with e2; exact q3 e2.symm)]
      exact hg.cell (q4 j y hj).1 (fun e => hd i hir e.symm)
    have := (hfr (bs i) j q2 (hd i hir)).trans (q4 j y hj).2
    simpa using this
  rcases hv with hv | hv
  · rw [← hv]; exact hd i hi
  rw [hv]; intro e
  injection e with e
  obtain ⟨r, hr1⟩ : ∃ r, R[i]? = some r := ⟨_, List.getElem?_eq_getElem hi⟩
  have := (hr.2.1 i r hr1).2.1
  omega
theorem GridZ.set {wb w : World} {g : Nat} {m : List (List Int)} {bs : Nat → Nat} (h : GridZ wb w g m bs) {i j : Nat} {r : List Int} {x : Int} (hi : m[i]? = some r) (hj : r[j]? = some x) (y : Int) :
    GridZ wb (w.setCell ⟨bs i, j, none⟩ (.int .i64 y)) g (m.set i (r.set j y)) bs := by
  obtain ⟨⟨h1, h2⟩, hk, hr1, hr2, hr3⟩ := h
  obtain ⟨q1, q2, q3, q4⟩ := hr2 i r hi
  have him := (List.getElem?_eq_some_iff.1 hi).1
  have hjr := (List.getElem?_eq_some_iff.1 hj).1
  have hrow : ∀ k s, (m.set i (r.set j y))[k]? = some s → ∃ s', m[k]? = some s' ∧ s.length = s'.length ∧ ((k = i ∧ s = r.set j y) ∨ (k ≠ i ∧ s = s')) := fun k s hs => by
    rw [List.getElem?_set] at hs
    by_cases hik : i = k
    · subst hik
      rw [if_pos rfl, if_pos him] at hs
      cases hs
      exact ⟨r, hi, by simp, .inl ⟨rfl, rfl⟩⟩
    · rw [if_neg hik] at hs
      exact ⟨s, hs, rfl, .inr ⟨fun e => hik e.symm, rfl⟩⟩
  refine ⟨⟨h1, by simpa using h2⟩, hk.set q1 _, fun k s hs => ?_, fun k s hs => ?_, fun a b ha hb => hr3 a b (by simpa using ha) (by simpa using hb)⟩
  · obtain ⟨s', hs', hl, _⟩ := hrow k s hs
    obtain ⟨c, hc⟩ := hr1 k s' hs'
    exact ⟨c, by rw [cell_set_ne (fun e => by injection e with e2; exact q3 e2), hl]; exact hc⟩
  obtain ⟨s', hs', hl, hcase⟩ := hrow k s hs
  obtain ⟨p1, p2, p3, p4⟩ := hr2 k s' hs'
  have hkm := (List.getElem?_eq_some_iff.1 hs').1
  refine ⟨p1, by simpa using p2, p3, fun l z hz => ?_⟩
  rcases hcase with ⟨rfl, rfl⟩ | ⟨hne, rfl⟩
  rotate_left
  · have hb : bs i ≠ bs k := fun e => hne (hr3 i k him hkm e).symm
    exact ⟨by rw [cell_set_ne (fun e => by injection e with e2; exact hb e2)]; exact (p4 l z hz).1, by simpa using (p4 l z hz).2⟩
  rw [hi] at hs'
  cases hs'
  rw [List.getElem?_set] at hz
  by_cases hjl : j = l
  · subst hjl
    rw [if_pos rfl, if_pos hjr] at hz
    cases hz
    exact ⟨cell_set_eq (q4 j x hj).1, by simpa using (q4 j x hj).2⟩
  rw [if_neg hjl] at hz
  exact ⟨by rw [cell_set_ne (fun e => by injection e with _ e2; exact hjl e2)]; exact (q4 l z hz).1, by simpa using (q4 l z hz).2⟩
theorem ptP_int {d : RD} {a : Int} (h : d.dy = intD a) : ptP d = pnI a a := by unfold ptP pnI; rw [h]
theorem opp_int {a : Int} (h : a.natAbs ≤ 1000) : (intD a).opp = intD (-a) := by
  refine intD_eqs (Dy.opp_ok (intD_oks h)) (by omega) ?_
  rw [Dy.opp_iv, intD_iv, Int.neg_mul]
theorem neg_int {a b : Int} (h : a.natAbs ≤ 1000) (h2 : b.natAbs ≤ 1000) : (pnI a b).neg = pnI (-b) (-a) := by
  unfold PI.neg pnI
  rw [opp_int h, opp_int h2]; rfl
theorem pSub_int {a b c d : Int} {p : Nat} (hp : 8 ≤ p) (hp2 : p ≤ 512) (hc : c.natAbs ≤ 1000) (hd : d.natAbs ≤ 1000) (h : (a - d).natAbs < 2 ^ p) (h2 : (b - c).natAbs < 2 ^ p) : pSub (pnI a b) (pnI c d) p = pnI (a - d) (b - c) := by
  unfold pSub
  rw [neg_int hc hd, pAdd_int hp hp2 (by rwa [← Int.sub_eq_add_neg]) (by rwa [← Int.sub_eq_add_neg]), ← Int.sub_eq_add_neg, ← Int.sub_eq_add_neg]
theorem intD_mne {a : Int} (h : a ≠ 0) (_h2 : a.natAbs ≤ 1000) : (intD a).m ≠ 0 := fun e => by
  have h1 := intD_iv a
  unfold Dy.iv at h1
  rw [e, Nat.zero_mul] at h1
  have h3 : sg (intD a).neg 0 = 0 := by cases (intD a).neg <;> rfl
  rw [h3] at h1
  have hQ := twoK_pos 16384
  generalize (2 : Int) ^ 16384 = Q at *
  rcases Int.mul_eq_zero.1 h1.symm with h4 | h4
  · exact h h4
  · omega
theorem cast_lt {n k p : Nat} (h : n < 2 ^ k) (hk : k ≤ p) : n < 2 ^ p := Nat.lt_of_lt_of_le h (Nat.pow_le_pow_right (by decide) hk)
def exN (m : List (List RD)) (p q r s : Int) : Prop := ∃ a b c d : RD, m = [[a, b], [c, d]] ∧ (a.dy = intD p ∧ b.dy = intD q ∧ c.dy = intD r ∧ d.dy = intD s) ∧ (a.vl = true ∧ b.vl = true ∧ c.vl = true ∧ d.vl = true)
theorem exN_sq {m : List (List RD)} {p q r s : Int} (h : exN m p q r s) : sqN m = true ∧ m.length = 2 := by
  obtain ⟨a, b, c, d, rfl, _, v1, v2, v3, v4⟩ := h
  refine ⟨?_, rfl⟩
  unfold sqN vlN colsN
  simp [v1, v2, v3, v4]
theorem exN_at {m : List (List RD)} {p q r s : Int} (h : exN m p q r s) : ptP (atN m 0 0) = pnI p p ∧ ptP (atN m 0 1) = pnI q q ∧ ptP (atN m 1 0) = pnI r r ∧ ptP (atN m 1 1) = pnI s s := by
  obtain ⟨a, b, c, d, rfl, ⟨d1, d2, d3, d4⟩, _⟩ := h
  exact ⟨ptP_int d1, ptP_int d2, ptP_int d3, ptP_int d4⟩
theorem idP_eq : idP 0 0 = pnI 1 1 ∧ idP 0 1 = pnI 0 0 ∧ idP 1 0 = pnI 0 0 ∧ idP 1 1 = pnI 1 1 := ⟨rfl, rfl, rfl, rfl⟩
theorem tab22 (F : Nat → Nat → PI) : tabM 2 2 F = [[F 0 0, F 0 1], [F 1 0, F 1 1]] := rfl
theorem dot2 (p : Nat) (f g : Nat → PI) : dotF p f g 1 = pAdd (pMul (f 0) (g 0) p) (pMul (f 1) (g 1) p) p := rfl
theorem mag_zero : magP (pnI 0 0) = .zero := by
  rw [magP_int (by decide) (by decide)]
  show intD 0 = _
  exact intD_zero
theorem sumQ_zero {p : Nat} (hp : 8 ≤ p) (hp2 : p ≤ 512) : sumQ p [pnI 0 0, pnI 0 0] .zero = some .zero := by
  have e : adP .zero .zero p true = (.zero, 0) := by
    have := adP_int (a := 0) (b := 0) hp hp2 (by show 0 < 2 ^ p; exact Nat.two_pow_pos p) true
    rw [intD_zero] at this
    exact this
  unfold sumQ
  rw [if_neg (by show ¬ (false = true); decide), mag_zero, e]
  show (if (0 : Int) ≠ 0 then none else sumQ p [pnI 0 0] .zero) = _
  rw [if_neg (by decide)]
  unfold sumQ
  rw [if_neg (by show ¬ (false = true); decide), mag_zero, e]
  show (if (0 : Int) ≠ 0 then none else sumQ p [] .zero) = _
  rw [if_neg (by decide)]
  rfl
theorem exL_cor {a v : List (List RD)} (ha : exN a 2 1 1 1) (hv : exN v 1 (-1) (-1) 2) : corC a v 64 = ([[pnI 1 1, pnI (-1) (-1)], [pnI (-1) (-1), pnI 2 2]], 0) := by
  obtain ⟨sa, la⟩ := exN_sq ha
  obtain ⟨sv, lv⟩ := exN_sq hv
  obtain ⟨a1, a2, a3, a4⟩ := exN_at ha
  obtain ⟨v1, v2, v3, v4⟩ := exN_at hv
  obtain ⟨i1, i2, i3, i4⟩ := idP_eq
  have h8 : 8 ≤ 64 := by decide
  have h512 : 64 ≤ 512 := by decide
  have B : ∀ {n : Nat}, n < 2 ^ 8 → n < 2 ^ 64 := fun h => cast_lt h (by decide)
  unfold corC corB
  rw [sa, sv, la, lv, if_pos (by decide), show (64 : Int).toNat = 64 from rfl]
  have hD : corD a v 64 = some .zero := by
    unfold corD
    rw [la, tab22]
    simp only [Nat.reduceSub, dot2, a1, a2, a3, a4, v1, v2, v3, v4, i1, i2, i3, i4]
    rw [pMul_pt (a := 1) (b := 2) h8 h512 (B (by decide)), pMul_pt (a := -1) (b := 1) h8 h512 (B (by decide)), pMul_pt (a := 1) (b := 1) h8 h512 (B (by decide)), pMul_pt (a := -1) (b := 2) h8 h512 (B (by decide)), pMul_pt (a := 2) (b := 1) h8 h512 (B (by decide))]
    rw [pAdd_int h8 h512 (B (by decide)) (B (by decide)), pAdd_int h8 h512 (B (by decide)) (B (by decide)), pAdd_int h8 h512 (B (by decide)) (B (by decide)), pAdd_int h8 h512 (B (by decide)) (B (by decide))]
    rw [pSub_int h8 h512 (by decide) (by decide) (B (by decide)) (B (by decide)), pSub_int h8 h512 (by decide) (by decide) (B (by decide)) (B (by decide)), pSub_int h8 h512 (by decide) (by decide) (B (by decide)) (B (by decide)), pSub_int h8 h512 (by decide) (by decide) (B (by decide)) (B (by decide))]
    simp only [Int.reduceMul, Int.reduceAdd, Int.reduceSub, Int.reduceNeg]
    have hn : nrmQ 64 [[pnI 0 0, pnI 0 0], [pnI 0 0, pnI 0 0]] .zero = some .zero := by
      unfold nrmQ
      rw [sumQ_zero h8 h512]
      show nrmQ 64 [[pnI 0 0, pnI 0 0]] (if Dy.zero.iv < Dy.zero.iv then Dy.zero else Dy.zero) = _
      rw [if_neg (Int.lt_irrefl _)]
      unfold nrmQ
      rw [sumQ_zero h8 h512]
      show nrmQ 64 [] (if Dy.zero.iv < Dy.zero.iv then Dy.zero else Dy.zero) = _
      rw [if_neg (Int.lt_irrefl _)]
      rfl
    rw [hn]
    have e1 : adP (intD 1) Dy.zero.opp 64 false = (intD 1, 0) := by
      have h := adP_int (a := 1) (b := 0) h8 h512 (B (by decide)) false
      rw [intD_zero] at h
      exact h
    have e2 : dvP .zero (intD 1) 64 true = (.zero, 0) := by
      unfold dvP
      rw [if_neg (intD_mne (by decide) (by decide)), if_pos (show Dy.zero.m = 0 from rfl)]
    show (if (intD 1).iv ≤ Dy.zero.iv then none else if (adP (intD 1) Dy.zero.opp 64 false).2 ≠ 0 then none else if (dvP .zero (adP (intD 1) Dy.zero.opp 64 false).1 64 true).2 ≠ 0 then none else some (dvP .zero (adP (intD 1) Dy.zero.opp 64 false).1 64 true).1) = _
    rw [e1]
    show (if (intD 1).iv ≤ Dy.zero.iv then none else if (0 : Int) ≠ 0 then none else if (dvP .zero (intD 1) 64 true).2 ≠ 0 then none else some (dvP .zero (intD 1) 64 true).1) = _
    rw [e2, if_neg (by rw [Dy.iv_zero]; have : (intD 0).iv < (intD 1).iv := intD_lt (by decide); rw [intD_zero, Dy.iv_zero] at this; omega), if_neg (by decide), if_neg (by decide)]
  rw [hD]
  show (corF a v 64 .zero, (0 : Int)) = _
  congr 1
  unfold corF
  rw [la, tab22]
  have hz : (⟨Dy.zero.opp, .zero, false⟩ : PI) = pnI 0 0 := by unfold pnI; rw [intD_zero]; rfl
  simp only [Nat.reduceSub, dot2, hz, v1, v2, v3, v4, i1, i2, i3, i4]
  rw [pAdd_int (a := 1) (b := 1) (c := 0) (d := 0) h8 h512 (B (by decide)) (B (by decide)), pAdd_int (a := 0) (b := 0) (c := 0) (d := 0) h8 h512 (B (by decide)) (B (by decide))]
  simp only [Int.add_zero]
  rw [pMul_pt (a := 1) (b := 1) h8 h512 (B (by decide)), pMul_pt (a := 0) (b := -1) h8 h512 (B (by decide)), pMul_pt (a := 1) (b := -1) h8 h512 (B (by decide)), pMul_pt (a := 0) (b := 2) h8 h512 (B (by decide)), pMul_pt (a := 0) (b := 1) h8 h512 (B (by decide)), pMul_pt (a := 1) (b := 2) h8 h512 (B (by decide))]
  simp only [Int.mul_one, Int.zero_mul, Int.one_mul]
  rw [pAdd_int h8 h512 (B (by decide)) (B (by decide)), pAdd_int h8 h512 (B (by decide)) (B (by decide)), pAdd_int h8 h512 (B (by decide)) (B (by decide)), pAdd_int h8 h512 (B (by decide)) (B (by decide))]
  simp only [Int.reduceAdd, Int.reduceNeg]
theorem exL_disc {r0 r1 : List PI} (h0 : r0 = [pnI (-3) (-3), pnI 1 1]) (h1 : r1 = [pnI 1 1, pnI (-2) (-2)]) : dscF 64 r0 0 = pnI (-4) (-2) ∧ dscF 64 r1 1 = pnI (-3) (-1) := by
  have h8 : 8 ≤ 64 := by decide
  have h512 : 64 ≤ 512 := by decide
  have B : ∀ {n : Nat}, n < 2 ^ 8 → n < 2 ^ 64 := fun h => cast_lt h (by decide)
  have m1 : magP (pnI 1 1) = intD 1 := by rw [magP_int (by decide) (by decide)]; rfl
  have e1 : adP .zero (intD 1) 64 true = (intD 1, 0) := adP_nil2 h8 h512 (B (by decide))
  have s0 : dscS 64 0 r0 0 .zero = some (intD 1) := by
    subst h0
    unfold dscS
    rw [if_neg (by show ¬ (false = true); decide), if_pos rfl]
    unfold dscS
    rw [if_neg (by show ¬ (false = true); decide), if_neg (by decide), m1, e1]
    show (if (0 : Int) ≠ 0 then none else dscS 64 0 [] 2 (intD 1)) = _
    rw [if_neg (by decide)]
    rfl
  have s1 : dscS 64 1 r1 0 .zero = some (intD 1) := by
    subst h1
    unfold dscS
    rw [if_neg (by show ¬ (false = true); decide), if_neg (by decide), m1, e1]
    show (if (0 : Int) ≠ 0 then none else dscS 64 1 [pnI (-2) (-2)] 1 (intD 1)) = _
    rw [if_neg (by decide)]
    unfold dscS
    rw [if_neg (by show ¬ (false = true); decide), if_pos rfl]
    rfl
  have key : ∀ a : Int, a.natAbs ≤ 100 → mkI (adP (intD a) (intD 1).opp 64 false) (adP (intD a) (intD 1) 64 true) = pnI (a - 1) (a + 1) := by
    intro a ha
    rw [opp_int (by decide), adP_int h8 h512 (B (by omega)), adP_int h8 h512 (B (by omega))]
    unfold mkI
    rw [if_neg (by simp), ← Int.sub_eq_add_neg]
    rfl
  refine ⟨?_, ?_⟩
  · unfold dscF
    rw [s0]
    subst h0
    show mkI (adP (intD (-3)) (intD 1).opp 64 false) (adP (intD (-3)) (intD 1) 64 true) = pnI (-4) (-2)
    rw [key (-3) (by decide)]
    simp only [Int.reduceSub, Int.reduceAdd, Int.reduceNeg]
  unfold dscF
  rw [s1]
  subst h1
  show mkI (adP (intD (-2)) (intD 1).opp 64 false) (adP (intD (-2)) (intD 1) 64 true) = pnI (-3) (-1)
  rw [key (-2) (by decide)]
  simp only [Int.reduceSub, Int.reduceAdd, Int.reduceNeg]
end Go.Proofs.YtpocjagbhiahdaaGreatDoor
