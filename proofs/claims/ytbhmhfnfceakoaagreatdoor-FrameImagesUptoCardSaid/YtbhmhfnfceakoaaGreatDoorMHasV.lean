/-
  Walks: interval.Has of a valid interval and a valid number.
-/
import Derived.Deep.DeepFit
import Derived.Test.YtbhmhfnfceakoaaGreatDoorMRoAdd
import Derived.Test.YtbhmhfnfceakoaaGreatDoorMIvA
namespace Go.Proofs.YtbhmhfnfceakoaaGreatDoor
open Go.RowKit
def hasX (X : PI) (v : Int) : Bool := X.all || (decide (X.lo.iv ≤ v) && decide (v ≤ X.hi.iv))
theorem IHas_vl (x : RI) (d : RD) (w : World) (hx : x.rd w) (hd : d.rd w) (vx : x.vl = true) (vd : d.vl = true) :
    Calls Tryz.prog 88 #[.agg #[.bool x.lo.neg, .slice x.lo.a x.lo.xs.length x.lo.c, .int .i64 x.lo.e, .bool x.hi.neg, .slice x.hi.a x.hi.xs.length x.hi.c, .int .i64 x.hi.e, .bool x.all], .agg #[.bool d.neg, .slice d.a d.xs.length d.c, .int .i64 d.e]] w fun e w' => e = .returned (.bool (hasX x.pl d.iv)) ∧ Kp w w' := by
  cases hxa : x.all with
  | false =>
    have ox : x.ok w := ok_of hx vx hxa
    refine (Has_ok x d w ox ⟨hd, vd⟩).mono ?_
    rintro e w' ⟨rfl, k⟩
    refine ⟨?_, k⟩
    congr 2
    unfold hasX hasI
    rw [show x.pl.all = false from hxa]
    rfl
  | true =>
  have H := Lib.hid (show hasX x.pl d.iv = true by unfold hasX; rw [show x.pl.all = true from hxa]; rfl)
  have C1 := Lib.hid (fun (W : World) (k : Kp w W) => IValid_raw x W (hx.kp k))
  have C2 := Lib.hid (fun (W : World) (k : Kp w W) => Valid_rok d W ⟨hd.kp k, vd⟩)
  rw [vx, hxa] at C1
  clear hx hd vx vd hxa
  go_enter Tryz.func88, Tryz.ntmps88
  go_wp2_with fail
  generalize hW : ((w.alloc _).alloc _) = W at *
  have hk : Kp w W := hW ▸ ((Kp.refl w).alloc _).alloc _
  have hS : (W.cell? ⟨w.heap.size, 0, none⟩ = some (.bool x.lo.neg) ∧ W.cell? ⟨w.heap.size, 1, none⟩ = some (.slice x.lo.a x.lo.xs.length x.lo.c) ∧ W.cell? ⟨w.heap.size, 2, none⟩ = some (.int .i64 x.lo.e) ∧ W.cell? ⟨w.heap.size, 3, none⟩ = some (.bool x.hi.neg) ∧ W.cell? ⟨w.heap.size, 4, none⟩ = some (.slice x.hi.a x.hi.xs.length x.hi.c) ∧ W.cell? ⟨w.heap.size, 5, none⟩ = some (.int .i64 x.hi.e) ∧ W.cell? ⟨w.heap.size, 6, none⟩ = some (.bool true)) ∧ W.cell? ⟨w.heap.size + 1, 0, none⟩ = some (.bool d.neg) ∧ W.cell? ⟨w.heap.size + 1, 1, none⟩ = some (.slice d.a d.xs.length d.c) ∧ W.cell? ⟨w.heap.size + 1, 2, none⟩ = some (.int .i64 d.e) := by rw [← hW]; exact keep73 (Kp.refl _) (by simp)
  clear hW
  go_fit (C1.out _ hk)
  rintro e w1 ⟨rfl, k1⟩
  have hS1 := keep73 k1 hS
  have hk1 := hk.trans k1
  obtain ⟨⟨s0, s1, s2, s3, s4, s5, s6⟩, t0, t1, t2⟩ := id hS1
  go_wp2_with fail
  go_fit (C2.out _ hk1)
  rintro e w2 ⟨rfl, k2⟩
  clear s0 s1 s2 s3 s4 s5 s6 t0 t1 t2
  obtain ⟨⟨s0, s1, s2, s3, s4, s5, s6⟩, t0, t1, t2⟩ := keep73 k2 hS1
  have hk2 := hk1.trans k2
  go_wp2_with fail
  go_ret
  exact ⟨ret_bool H.out.symm, hk2⟩
theorem IHas_raw (x : RI) (d : RD) (w : World) (hx : x.rd w) (hd : d.rd w) (vd : d.vl = true) :
    Calls Tryz.prog 88 #[.agg #[.bool x.lo.neg, .slice x.lo.a x.lo.xs.length x.lo.c, .int .i64 x.lo.e, .bool x.hi.neg, .slice x.hi.a x.hi.xs.length x.hi.c, .int .i64 x.hi.e, .bool x.all], .agg #[.bool d.neg, .slice d.a d.xs.length d.c, .int .i64 d.e]] w fun e w' => e = .returned (.bool (x.vl && hasX x.pl d.iv)) ∧ Kp w w' := by
  cases hv : x.vl with
  | true => exact (IHas_vl x d w hx hd hv vd).mono fun e w' h => by simpa using h
  | false =>
  have C1 := Lib.hid (fun (W : World) (k : Kp w W) => IValid_raw x W (hx.kp k))
  rw [hv] at C1
  rw [Bool.false_and]
  clear hx hd vd hv
  go_enter Tryz.func88, Tryz.ntmps88
  go_wp2_with fail
  generalize hW : ((w.alloc _).alloc _) = W at *
  have hk : Kp w W := hW ▸ ((Kp.refl w).alloc _).alloc _
  have hS : (W.cell? ⟨w.heap.size, 0, none⟩ = some (.bool x.lo.neg) ∧ W.cell? ⟨w.heap.size, 1, none⟩ = some (.slice x.lo.a x.lo.xs.length x.lo.c) ∧ W.cell? ⟨w.heap.size, 2, none⟩ = some (.int .i64 x.lo.e) ∧ W.cell? ⟨w.heap.size, 3, none⟩ = some (.bool x.hi.neg) ∧ W.cell? ⟨w.heap.size, 4, none⟩ = some (.slice x.hi.a x.hi.xs.length x.hi.c) ∧ W.cell? ⟨w.heap.size, 5, none⟩ = some (.int .i64 x.hi.e) ∧ W.cell? ⟨w.heap.size, 6, none⟩ = some (.bool x.all)) ∧ W.cell? ⟨w.heap.size + 1, 0, none⟩ = some (.bool d.neg) ∧ W.cell? ⟨w.heap.size + 1, 1, none⟩ = some (.slice d.a d.xs.length d.c) ∧ W.cell? ⟨w.heap.size + 1, 2, none⟩ = some (.int .i64 d.e) := by rw [← hW]; exact keep73 (Kp.refl _) (by simp)
  clear hW
  go_fit (C1.out _ hk)
  rintro e w1 ⟨rfl, k1⟩
  have hk1 := hk.trans k1
  go_wp2_with fail
  go_ret
  exact ⟨rfl, hk1⟩
end Go.Proofs.YtbhmhfnfceakoaaGreatDoor
