/-
  Walks: the seventh reference's Numbers; the fifth's Has.
-/
import Derived.Deep.LoopGhost
import Derived.Test.YtdlpiblgkpgplaaGreatDoorMRectN
import Derived.Test.YtdlpiblgkpgplaaGreatDoorMR5A
import Derived.Test.YtdlpiblgkpgplaaGreatDoorMIdxT
namespace Go.Proofs.YtdlpiblgkpgplaaGreatDoor
open Go.RowKit

set_option maxHeartbeats 4000000 in
theorem r5has_ok (x : RI) (d : RD) (w : World) (hx : x.ok w) (hd : d.ok w) :
    Calls Tryz.prog 33 #[.agg #[.bool x.lo.neg, .slice x.lo.a x.lo.xs.length x.lo.c, .int .i64 x.lo.e, .bool x.hi.neg, .slice x.hi.a x.hi.xs.length x.hi.c, .int .i64 x.hi.e, .bool false], .agg #[.bool d.neg, .slice d.a d.xs.length d.c, .int .i64 d.e]] w fun e w' => e = .returned (.bool (hasI x d)) ∧ Kp w w' := by
  have H := Lib.hid (show hasI x d = (decide (cmpZ x.lo.iv d.iv ≤ 0) && decide (cmpZ d.iv x.hi.iv ≤ 0)) by rw [leZ, leZ]; rfl)
  have C1 := Lib.hid (fun (W : World) (k : Kp w W) => r5Valid_raw x W (hx.1.kp k))
  have C2 := Lib.hid (fun (W : World) (k : Kp w W) => r2Valid_raw d W (hd.1.kp k))
  rw [hx.2.2, hx.2.1] at C1
  rw [hd.2] at C2
  go_enter Tryz.func33, Tryz.ntmps33
  go_wp2_with fail
  generalize hW : ((w.alloc _).alloc _) = W at *
  have hk : Kp w W := hW ▸ ((Kp.refl w).alloc _).alloc _
  have hS : (W.cell? ⟨w.heap.size, 0, none⟩ = some (.bool x.lo.neg) ∧ W.cell? ⟨w.heap.size, 1, none⟩ = some (.slice x.lo.a x.lo.xs.length x.lo.c) ∧ W.cell? ⟨w.heap.size, 2, none⟩ = some (.int .i64 x.lo.e) ∧ W.cell? ⟨w.heap.size, 3, none⟩ = some (.bool x.hi.neg) ∧ W.cell? ⟨w.heap.size, 4, none⟩ = some (.slice x.hi.a x.hi.xs.length x.hi.c) ∧ W.cell? ⟨w.heap.size, 5, none⟩ = some (.int .i64 x.hi.e) ∧ W.cell? ⟨w.heap.size, 6, none⟩ = some (.bool false)) ∧ W.cell? ⟨w.heap.size + 1, 0, none⟩ = some (.bool d.neg) ∧ W.cell? ⟨w.heap.size + 1, 1, none⟩ = some (.slice d.a d.xs.length d.c) ∧ W.cell? ⟨w.heap.size + 1, 2, none⟩ = some (.int .i64 d.e) := by rw [← hW]; simp
  clear hW
  go_fit (C1.out _ hk)
  rintro e w1 ⟨rfl, hk1⟩
  have hS1 := keep73 hk1 hS
  have hk2 := hk.trans hk1
  clear hS hk hk1
  go_wp2_with fail
  go_fit (C2.out _ hk2)
  rintro e w3 ⟨rfl, hk3⟩
  have hS2 := keep73 hk3 hS1
  have hk4 := hk2.trans hk3
  clear hS1 hk2 hk3
  go_wp2_with fail
  refine (r2cmp_raw x.lo d _ (hx.lo.kp hk4).1 (hd.kp hk4).1 hx.lo.2 hd.2).mono ?_
  rintro e w5 ⟨rfl, hk5⟩
  have hS3 := keep73 hk5 hS2
  have hk6 := hk4.trans hk5
  clear hS2 hk4 hk5
  by_cases hc : cmpZ x.lo.iv d.iv ≤ 0
  · have hd2 := decide_eq_true hc
    rw [hd2] at H
    clear hc
    go_wp2_with fail
    refine (r2cmp_raw d x.hi _ (hd.kp hk6).1 (hx.hi.kp hk6).1 hd.2 hx.hi.2).mono ?_
    rintro e w7 ⟨rfl, hk7⟩
    go_wp2_with fail
    go_ret
    exact ⟨ret_bool (by rw [H.out]; simp), hk6.trans hk7⟩
  · have hd2 := decide_eq_false hc
    rw [hd2] at H
    clear hc
    go_wp2_with fail
    go_ret
    exact ⟨ret_bool (by rw [H.out]; simp), hk6⟩
end Go.Proofs.YtdlpiblgkpgplaaGreatDoor
