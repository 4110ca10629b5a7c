/-
  Walks: frame.Valid.
-/
import Derived.Deep.DeepFit
import Derived.Laws.EntriesVeiled
import Derived.Test.YtbhmhfnfceakoaaGreatDoorMEchM
import Derived.Test.YtbhmhfnfceakoaaGreatDoorMHasV
namespace Go.Proofs.YtbhmhfnfceakoaaGreatDoor
open Go.RowKit

theorem fprecise_any (p : Int) (w : World) :
    Calls Tryz.prog 95 #[.int .i64 p] w fun e w' => e = .returned (.bool (preB p)) ∧ w = w' := by
  by_cases h1 : 8 ≤ p
  rotate_left
  · have H := Lib.hid (show preB p = false from decide_eq_false (by omega))
    go_enter Tryz.func95, Tryz.ntmps95
    go_wp2_with fail
    go_ret
    exact ⟨ret_bool (by first | exact H.out.symm | (rw [H.out]; simp; omega)), rfl⟩
  by_cases h2 : p ≤ 512
  · have H := Lib.hid (show preB p = true from decide_eq_true ⟨h1, h2⟩)
    go_enter Tryz.func95, Tryz.ntmps95
    go_wp2_with fail
    go_ret
    exact ⟨ret_bool (by first | exact H.out.symm | (rw [H.out]; simp; omega)), rfl⟩
  have H := Lib.hid (show preB p = false from decide_eq_false (by omega))
  go_enter Tryz.func95, Tryz.ntmps95
  go_wp2_with fail
  go_ret
  exact ⟨ret_bool (by first | exact H.out.symm | (rw [H.out]; simp; omega)), rfl⟩
def badF (n : Nat) (r : List RD) : Bool := decide (r.length ≠ n) || r.any fun x => !x.vl
theorem vlF_any (f : RF) : vlF f = (decide (1 ≤ f.cs.length ∧ f.cs.length ≤ 8) && (decide (f.ms.length = f.cs.length ∧ f.rs.length = f.cs.length) && (!(f.cs.any fun x => !x.vl) && (!f.ms.any (badF f.cs.length) && !f.rs.any fun x => !goodZ x)))) := by
  unfold vlF
  congr 2
  rw [List.not_any_eq_all_not, List.not_any_eq_all_not, List.not_any_eq_all_not]
  congr 1
  · congr 1; funext x; simp
  congr 1
  · congr 1
    funext r
    unfold badF
    rw [Bool.not_or, List.not_any_eq_all_not]
    simp
  congr 1; funext x; simp
theorem storeFv (a : Addr) (f : Fn) (ts cap : Array Value) (m : Mode) (w : World) : (store a (.func f ts cap) m).run Tryz.prog w = Go.stored Tryz.prog w a (.func f ts cap) m := run_store _ w a _ m rfl
set_option maxHeartbeats 2000000 in
theorem fv1_any (x : RD) (w : World) (hx : x.rd w) :
    Calls Tryz.prog 83 #[.agg #[.bool x.neg, .slice x.a x.xs.length x.c, .int .i64 x.e]] w fun e w' => e = .returned (.bool (!x.vl)) ∧ Kp w w' := by
  have k1 := (Kp.refl w).alloc (.cells #[.bool x.neg, .slice x.a x.xs.length x.c, .int .i64 x.e] 38)
  have HX := Lib.hid (hx.kp k1)
  clear hx
  go_enter Tryz.func83, Tryz.ntmps83
  go_upto_region 1 with fail
  generalize hW : w.alloc _ = W at *
  obtain ⟨s0, s1, s2⟩ : W.cell? ⟨w.heap.size, 0, none⟩ = some (.bool x.neg) ∧ W.cell? ⟨w.heap.size, 1, none⟩ = some (.slice x.a x.xs.length x.c) ∧ W.cell? ⟨w.heap.size, 2, none⟩ = some (.int .i64 x.e) := by rw [← hW]; simp
  clear hW
  go_wp2_with fail
  go_fit (Valid_raw x _ HX.out)
  rintro e w1 ⟨rfl, k2⟩
  go_wp2_with fail
  go_ret
  exact ⟨rfl, k1.trans k2⟩
set_option maxHeartbeats 2000000 in
theorem fp1_any (x : RD) (w : World) (hx : x.rd w) :
    Calls Tryz.prog 93 #[.agg #[.bool x.neg, .slice x.a x.xs.length x.c, .int .i64 x.e]] w fun e w' => e = .returned (.bool (!x.vl)) ∧ Kp w w' := by
  have k1 := (Kp.refl w).alloc (.cells #[.bool x.neg, .slice x.a x.xs.length x.c, .int .i64 x.e] 38)
  have HX := Lib.hid (hx.kp k1)
  clear hx
  go_enter Tryz.func93, Tryz.ntmps93
  go_upto_region 1 with fail
  generalize hW : w.alloc _ = W at *
  obtain ⟨s0, s1, s2⟩ : W.cell? ⟨w.heap.size, 0, none⟩ = some (.bool x.neg) ∧ W.cell? ⟨w.heap.size, 1, none⟩ = some (.slice x.a x.xs.length x.c) ∧ W.cell? ⟨w.heap.size, 2, none⟩ = some (.int .i64 x.e) := by rw [← hW]; simp
  clear hW
  go_wp2_with fail
  go_fit (Valid_raw x _ HX.out)
  rintro e w1 ⟨rfl, k2⟩
  go_wp2_with fail
  go_ret
  exact ⟨rfl, k1.trans k2⟩
set_option maxHeartbeats 2000000 in
theorem fv2_any (r : List RD) (n : Nat) (ra : Option Addr) (rc bn bo : Nat) (w : World) (hr : RowD w ra r) (hrl : r.length ≤ 1100000)
    (h1 : w.cell? ⟨bn, 0, none⟩ = some (.int .i64 (n : Int))) (h2 : w.cell? ⟨bo, 0, none⟩ = some (.func (.func 83) #[] #[])) :
    Calls Tryz.prog 86 #[.slice ra r.length rc, .pointer (some ⟨bn, 0, none⟩), .pointer (some ⟨bo, 0, none⟩)] w fun e w' => e = .returned (.bool (badF n r)) ∧ Kp w w' := by
  have hp : AnsD Tryz.prog 83 #[] w r (fun x => !x.vl) := ⟨fun _ _ => by kernel_rfl, fun x hx w1 k => fv1_any x w1 ((hr.rd hx).kp k)⟩
  have HC := Lib.hid (containsD ra r rc _ _ w _ hrl hr hp)
  clear hp hr
  by_cases hlen : r.length = n
  rotate_left
  · have hne : ((r.length : Int) != (n : Int)) = true := by simpa using (by omega : ¬ (r.length : Int) = (n : Int))
    have HB := Lib.hid (show badF n r = true by unfold badF; rw [decide_eq_true (by simpa using hlen)]; rfl)
    clear hlen
    go_enter Tryz.func86, Tryz.ntmps86
    go_wp2_with fail
    go_ret
    exact ⟨ret_bool HB.out.symm, .refl _⟩
  have hne : ((r.length : Int) != (n : Int)) = false := by rw [hlen]; simp
  have HB := Lib.hid (show badF n r = r.any (fun x => !x.vl) by unfold badF; rw [decide_eq_false (by simpa using hlen)]; rfl)
  clear hlen
  go_enter Tryz.func86, Tryz.ntmps86
  go_wp2_with fail
  go_fit HC.out
  rintro e w1 ⟨rfl, k1⟩
  go_wp2_with fail
  go_ret
  exact ⟨ret_bool HB.out.symm, k1⟩
theorem IHas_zero (x : RI) (w : World) (hx : x.rd w) (ha : x.all = false) :
    Calls Tryz.prog 88 #[.agg #[.bool x.lo.neg, .slice x.lo.a x.lo.xs.length x.lo.c, .int .i64 x.lo.e, .bool x.hi.neg, .slice x.hi.a x.hi.xs.length x.hi.c, .int .i64 x.hi.e, .bool false], .agg #[.bool false, .slice none 0 0, .int .i64 0]] w fun e w' => e = .returned (.bool (goodZ x)) ∧ Kp w w' := by
  have h := IHas_raw x rdZero w hx (rdZero_rd _) rdZero_vl
  have e : (x.vl && hasX x.pl rdZero.iv) = goodZ x := by
    unfold goodZ hasX
    rw [show x.pl.all = false from ha, ha, show rdZero.iv = 0 from Dy.iv_zero]
    rfl
  rw [e, ha] at h
  exact h
set_option maxHeartbeats 2000000 in
theorem fv3_any (x : RI) (w : World) (hx : x.rd w) :
    Calls Tryz.prog 87 #[.agg #[.bool x.lo.neg, .slice x.lo.a x.lo.xs.length x.lo.c, .int .i64 x.lo.e, .bool x.hi.neg, .slice x.hi.a x.hi.xs.length x.hi.c, .int .i64 x.hi.e, .bool x.all]] w fun e w' => e = .returned (.bool (!goodZ x)) ∧ Kp w w' := by
  cases ha : x.all with
  | true =>
    have H := Lib.hid (show (!goodZ x) = true by unfold goodZ; rw [ha]; rfl)
    have k1 := (Kp.refl w).alloc (.cells #[.bool x.lo.neg, .slice x.lo.a x.lo.xs.length x.lo.c, .int .i64 x.lo.e, .bool x.hi.neg, .slice x.hi.a x.hi.xs.length x.hi.c, .int .i64 x.hi.e, .bool true] 44)
    clear hx ha
    go_enter Tryz.func87, Tryz.ntmps87
    go_upto_region 1 with fail
    generalize hW : w.alloc _ = W at *
    obtain ⟨s0, s1, s2, s3, s4, s5, s6⟩ : W.cell? ⟨w.heap.size, 0, none⟩ = some (.bool x.lo.neg) ∧ W.cell? ⟨w.heap.size, 1, none⟩ = some (.slice x.lo.a x.lo.xs.length x.lo.c) ∧ W.cell? ⟨w.heap.size, 2, none⟩ = some (.int .i64 x.lo.e) ∧ W.cell? ⟨w.heap.size, 3, none⟩ = some (.bool x.hi.neg) ∧ W.cell? ⟨w.heap.size, 4, none⟩ = some (.slice x.hi.a x.hi.xs.length x.hi.c) ∧ W.cell? ⟨w.heap.size, 5, none⟩ = some (.int .i64 x.hi.e) ∧ W.cell? ⟨w.heap.size, 6, none⟩ = some (.bool true) := by rw [← hW]; simp
    clear hW
    go_wp2_with fail
    go_ret
    exact ⟨ret_bool H.out.symm, k1⟩
  | false =>
  have k1 := (Kp.refl w).alloc (.cells #[.bool x.lo.neg, .slice x.lo.a x.lo.xs.length x.lo.c, .int .i64 x.lo.e, .bool x.hi.neg, .slice x.hi.a x.hi.xs.length x.hi.c, .int .i64 x.hi.e, .bool false] 44)
  have HC := Lib.hid (IHas_zero x _ (hx.kp k1) ha)
  clear hx ha
  go_enter Tryz.func87, Tryz.ntmps87
  go_upto_region 1 with fail
  generalize hW : w.alloc _ = W at *
  obtain ⟨s0, s1, s2, s3, s4, s5, s6⟩ : W.cell? ⟨w.heap.size, 0, none⟩ = some (.bool x.lo.neg) ∧ W.cell? ⟨w.heap.size, 1, none⟩ = some (.slice x.lo.a x.lo.xs.length x.lo.c) ∧ W.cell? ⟨w.heap.size, 2, none⟩ = some (.int .i64 x.lo.e) ∧ W.cell? ⟨w.heap.size, 3, none⟩ = some (.bool x.hi.neg) ∧ W.cell? ⟨w.heap.size, 4, none⟩ = some (.slice x.hi.a x.hi.xs.length x.hi.c) ∧ W.cell? ⟨w.heap.size, 5, none⟩ = some (.int .i64 x.hi.e) ∧ W.cell? ⟨w.heap.size, 6, none⟩ = some (.bool false) := by rw [← hW]; simp
  clear hW
  go_wp2_with fail
  go_fit HC.out
  rintro e w1 ⟨rfl, k2⟩
  go_wp2_with fail
  go_ret
  exact ⟨rfl, k1.trans k2⟩
theorem cell_new1 (w : World) (v : Value) (t : TypeId) : (w.alloc (.cells #[v] t)).cell? ⟨w.heap.size, 0, none⟩ = some v := by simp
theorem cell_new3 (w : World) (o1 o2 : Obj) (v : Value) (t : TypeId) : (((w.alloc o1).alloc o2).alloc (.cells #[v] t)).cell? ⟨w.heap.size + 1 + 1, 0, none⟩ = some v := by
  have := cell_new1 ((w.alloc o1).alloc o2) v t
  rwa [World.size_alloc, World.size_alloc] at this
theorem keepF {w w' : World} (k : Kp w w') {g : Nat} {f : RF} (h : w.cell? ⟨g, 0, none⟩ = some (.slice f.ca f.cs.length f.cc) ∧ w.cell? ⟨g, 1, none⟩ = some (.slice f.aa f.ms.length f.ac) ∧ w.cell? ⟨g, 2, none⟩ = some (.slice f.ra f.rs.length f.rc)) : w'.cell? ⟨g, 0, none⟩ = some (.slice f.ca f.cs.length f.cc) ∧ w'.cell? ⟨g, 1, none⟩ = some (.slice f.aa f.ms.length f.ac) ∧ w'.cell? ⟨g, 2, none⟩ = some (.slice f.ra f.rs.length f.rc) := keep3 k h
set_option maxRecDepth 100000 in
set_option maxHeartbeats 8000000 in
theorem fval_any (f : RF) (w : World) (hf : f.rd w) :
    Calls Tryz.prog 27 #[.agg #[.slice f.ca f.cs.length f.cc, .slice f.aa f.ms.length f.ac, .slice f.ra f.rs.length f.rc]] w fun e w' => e = .returned (.bool (vlF f)) ∧ Kp w w' := by
  have HV := Lib.hid (vlF_any f)
  have HF := Lib.hid hf
  have hsf := storeFv
  clear hf
  by_cases h1 : f.cs.length < 1
  · have H := Lib.hid (show vlF f = false by rw [HV.out, decide_eq_false (by omega)]; rfl)
    have g1 : (f.cs.length : Int) < 1 := by omega
    have kk := ((Kp.refl w).alloc (.cells #[.slice f.ca f.cs.length f.cc, .slice f.aa f.ms.length f.ac, .slice f.ra f.rs.length f.rc] 26)).alloc (.cells #[.int .i64 (f.cs.length : Int)] 3)
    clear h1 HV
    go_enter Tryz.func27, Tryz.ntmps27
    go_wp2_with fail
    go_ret
    exact ⟨ret_bool H.out.symm, kk⟩
  have g1 : ¬ (f.cs.length : Int) < 1 := by omega
  by_cases h2 : 8 < f.cs.length
  · have H := Lib.hid (show vlF f = false by rw [HV.out, decide_eq_false (by omega)]; rfl)
    have g2 : (8 : Int) < (f.cs.length : Int) := by omega
    have kk := ((Kp.refl w).alloc (.cells #[.slice f.ca f.cs.length f.cc, .slice f.aa f.ms.length f.ac, .slice f.ra f.rs.length f.rc] 26)).alloc (.cells #[.int .i64 (f.cs.length : Int)] 3)
    clear h1 h2 HV
    go_enter Tryz.func27, Tryz.ntmps27
    go_wp2_with fail
    go_ret
    exact ⟨ret_bool H.out.symm, kk⟩
  have g2 : ¬ (8 : Int) < (f.cs.length : Int) := by omega
  by_cases h3 : f.ms.length = f.cs.length
  case neg =>
    have H := Lib.hid (show vlF f = false by rw [HV.out, decide_eq_true (by omega), decide_eq_false (by omega)]; rfl)
    have g3 : ((f.ms.length : Int) != (f.cs.length : Int)) = true := by simpa using (by omega : ¬ (f.ms.length : Int) = (f.cs.length : Int))
    have kk := ((Kp.refl w).alloc (.cells #[.slice f.ca f.cs.length f.cc, .slice f.aa f.ms.length f.ac, .slice f.ra f.rs.length f.rc] 26)).alloc (.cells #[.int .i64 (f.cs.length : Int)] 3)
    clear h1 h2 h3 HV
    go_enter Tryz.func27, Tryz.ntmps27
    go_wp2_with fail
    go_ret
    exact ⟨ret_bool H.out.symm, kk⟩
  have g3 : ((f.ms.length : Int) != (f.cs.length : Int)) = false := by rw [h3]; simp
  by_cases h4 : f.rs.length = f.cs.length
  case neg =>
    have H := Lib.hid (show vlF f = false by rw [HV.out, decide_eq_true (by omega), decide_eq_false (by omega)]; rfl)
    have g4 : ((f.rs.length : Int) != (f.cs.length : Int)) = true := by simpa using (by omega : ¬ (f.rs.length : Int) = (f.cs.length : Int))
    have kk := ((Kp.refl w).alloc (.cells #[.slice f.ca f.cs.length f.cc, .slice f.aa f.ms.length f.ac, .slice f.ra f.rs.length f.rc] 26)).alloc (.cells #[.int .i64 (f.cs.length : Int)] 3)
    clear h1 h2 h3 h4 HV
    go_enter Tryz.func27, Tryz.ntmps27
    go_wp2_with fail
    go_ret
    exact ⟨ret_bool H.out.symm, kk⟩
  have g4 : ((f.rs.length : Int) != (f.cs.length : Int)) = false := by rw [h4]; simp
  have H := Lib.hid (show vlF f = (!(f.cs.any fun x => !x.vl) && (!f.ms.any (badF f.cs.length) && !f.rs.any fun x => !goodZ x)) by rw [HV.out, decide_eq_true (by omega), decide_eq_true (by omega)]; rfl)
  clear HV h1 h2 h3 h4
  have kk := (((Kp.refl w).alloc (.cells #[.slice f.ca f.cs.length f.cc, .slice f.aa f.ms.length f.ac, .slice f.ra f.rs.length f.rc] 26)).alloc (.cells #[.int .i64 (f.cs.length : Int)] 3)).alloc (.cells #[.func (.func 83) #[] #[]] 80)
  go_enter Tryz.func27, Tryz.ntmps27
  go_upto_region 5 with fail
  generalize hW : (((w.alloc _).alloc _).alloc _) = W at *
  have hS : (W.cell? ⟨w.heap.size, 0, none⟩ = some (.slice f.ca f.cs.length f.cc) ∧ W.cell? ⟨w.heap.size, 1, none⟩ = some (.slice f.aa f.ms.length f.ac) ∧ W.cell? ⟨w.heap.size, 2, none⟩ = some (.slice f.ra f.rs.length f.rc)) ∧ W.cell? ⟨w.heap.size + 1, 0, none⟩ = some (.int .i64 (f.cs.length : Int)) ∧ W.cell? ⟨w.heap.size + 1 + 1, 0, none⟩ = some (.func (.func 83) #[] #[]) := by
    rw [← hW]
    refine ⟨keep3 ((Kp.refl _).alloc _) (keep3 ((Kp.refl _).alloc _) (by simp)), ((Kp.refl _).alloc _).cell (by simp), cell_new3 _ _ _ _ _⟩
  clear hW
  obtain ⟨⟨s0, s1, s2⟩, n0, f0⟩ := id hS
  go_wp2_with fail
  go_fit (containsD f.ca f.cs f.cc 83 #[] _ (fun x => !x.vl) HF.out.1.2 (HF.out.1.1.kp kk) ⟨fun _ _ => by kernel_rfl, fun x hx w1 k => fv1_any x w1 (((HF.out.1.1.kp kk).rd hx).kp k)⟩)
  rintro e w1 ⟨rfl, k1⟩
  have hS1 := And.intro (keepF k1 hS.1) (And.intro (k1.cell hS.2.1) (k1.cell hS.2.2))
  have hk1 := kk.trans k1
  clear s0 s1 s2 n0 f0 hS kk k1
  cases hc : f.cs.any fun x => !x.vl with
  | true =>
    have H2 := Lib.hid (show vlF f = false by rw [H.out, hc]; rfl)
    clear hc
    go_wp2_with fail
    go_ret
    exact ⟨ret_bool H2.out.symm, hk1⟩
  | false =>
  have H2 := Lib.hid (show vlF f = (!f.ms.any (badF f.cs.length) && !f.rs.any fun x => !goodZ x) by rw [H.out, hc]; rfl)
  have HS1 := Lib.hid hS1
  have HK1 := Lib.hid hk1
  obtain ⟨⟨s0, s1, s2⟩, n0, f0⟩ := id hS1
  have hlt1 := World.block_lt_of_cell? w1 _ n0
  have hlt2 := World.block_lt_of_cell? w1 _ f0
  clear hc H hS1 hk1
  go_wp2_with fail
  go_fit (containsN f.aa f.ms f.ac 86 #[.pointer (some ⟨w.heap.size + 1, 0, none⟩), .pointer (some ⟨w.heap.size + 1 + 1, 0, none⟩)] _ (badF f.cs.length) HF.out.2.1.2 (HF.out.2.1.1.kp HK1.out) ⟨fun _ _ => by kernel_rfl, fun r hr ra rc w2 k hrow => fv2_any r f.cs.length ra rc _ _ w2 hrow.1 hrow.2 (k.cell HS1.out.2.1) (k.cell HS1.out.2.2)⟩)
  rintro e w2 ⟨rfl, k2⟩
  have hS2 := keepF k2 HS1.out.1
  have hk2 := HK1.out.trans k2
  clear s0 s1 s2 n0 f0 k2 hlt1 hlt2
  cases hc : f.ms.any (badF f.cs.length) with
  | true =>
    have H3 := Lib.hid (show vlF f = false by rw [H2.out, hc]; rfl)
    clear hc
    go_wp2_with fail
    go_ret
    exact ⟨ret_bool H3.out.symm, hk2⟩
  | false =>
  have H3 := Lib.hid (show vlF f = !f.rs.any (fun x => !goodZ x) by rw [H2.out, hc]; rfl)
  have HK2 := Lib.hid hk2
  obtain ⟨s0, s1, s2⟩ := hS2
  clear hc H2 hk2
  go_wp2_with fail
  go_fit (containsI f.ra f.rs f.rc 87 #[] _ (fun x => !goodZ x) HF.out.2.2.2 (HF.out.2.2.1.kp HK2.out) ⟨fun _ _ => by kernel_rfl, fun x hx w3 k => fv3_any x w3 (((HF.out.2.2.1.kp HK2.out).rdI hx).kp k)⟩)
  rintro e w3 ⟨rfl, k3⟩
  go_wp2_with fail
  go_ret
  exact ⟨ret_bool H3.out.symm, HK2.out.trans k3⟩
end Go.Proofs.YtbhmhfnfceakoaaGreatDoor
