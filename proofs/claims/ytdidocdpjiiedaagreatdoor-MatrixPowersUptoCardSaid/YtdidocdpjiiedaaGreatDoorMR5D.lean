/-
  Walks: the fifth reference's Neg, Sub.
  Walks: the fifth reference's least, most, Mag.
-/
import Derived.Test.YtdidocdpjiiedaaGreatDoorMR5C
import Derived.Test.YtdidocdpjiiedaaGreatDoorMIvS
section
namespace Go.Proofs.YtdidocdpjiiedaaGreatDoor
open Go.RowKit

end Go.Proofs.YtdidocdpjiiedaaGreatDoor
end

section
namespace Go.Proofs.YtdidocdpjiiedaaGreatDoor
open Go.RowKit

set_option maxHeartbeats 4000000 in
theorem r5least_ok (x y : RD) (w : World) (hx : x.ok w) (hy : y.ok w) :
    Calls Tryz.prog 155 #[.agg #[.bool x.neg, .slice x.a x.xs.length x.c, .int .i64 x.e], .agg #[.bool y.neg, .slice y.a y.xs.length y.c, .int .i64 y.e]] w fun e w' => e = .returned (.agg #[.bool (lessR x y).neg, .slice (lessR x y).a (lessR x y).xs.length (lessR x y).c, .int .i64 (lessR x y).e]) ∧ Kp w w' := by
  go_enter Tryz.func155, Tryz.ntmps155
  go_wp2_with fail
  generalize hW : (((w.alloc _).alloc _).alloc _) = W at *
  have hk : Kp w W := hW ▸ (((Kp.refl w).alloc _).alloc _).alloc _
  have hS : (W.cell? ⟨w.heap.size, 0, none⟩ = some (.bool x.neg) ∧ W.cell? ⟨w.heap.size, 1, none⟩ = some (.slice x.a x.xs.length x.c) ∧ W.cell? ⟨w.heap.size, 2, none⟩ = some (.int .i64 x.e)) ∧ W.cell? ⟨w.heap.size + 1, 0, none⟩ = some (.bool y.neg) ∧ W.cell? ⟨w.heap.size + 1, 1, none⟩ = some (.slice y.a y.xs.length y.c) ∧ W.cell? ⟨w.heap.size + 1, 2, none⟩ = some (.int .i64 y.e) := by rw [← hW]; exact keep33 ((Kp.refl _).alloc _) (by simp)
  have hB : Box3 W (w.heap.size + 2) (.bool false) (.slice none 0 0) (.int .i64 0) := hW ▸ Box3.new3 _ _ _ _ _ _ _
  clear hW
  refine (r2cmp_rok x y _ (hx.kp hk) (hy.kp hk)).mono ?_
  rintro e w1 ⟨rfl, hk1⟩
  have hS1 := keep33 hk1 hS
  obtain ⟨q0, q1, q2, f0, f1, f2⟩ := hB.kp hk1
  have hk2 := hk.trans hk1
  clear hS hk hk1 hB
  by_cases hc : cmpZ x.iv y.iv ≤ 0
  · have hd := decide_eq_true hc
    have H := Lib.hid (show lessR x y = x by unfold lessR; rw [if_pos]; have := @cmpZ_gt x.iv y.iv; omega)
    clear hc
    go_wp2_with fail
    have hst := stored q0 q1 q2 (fun _ h => by cases h) (fun _ h => by cases h) (fun _ h => by cases h) (.bool x.neg) (.slice x.a x.xs.length x.c) (.int .i64 x.e)
    generalize (((w1.setCell _ _).setCell _ _).setCell _ _) = W2 at hst ⊢
    obtain ⟨s0, s1, s2, _, s4, s5, _, _⟩ := hst
    refine bodyPost_ret (v := .agg #[.bool x.neg, .slice x.a x.xs.length x.c, .int .i64 x.e]) (by simp [results, Tryz.results155, go_sem, s0, s1, s2]) rfl ?_
    rw [H.out]
    exact ⟨rfl, s5 _ hk2 (by omega)⟩
  · have hd := decide_eq_false hc
    have H := Lib.hid (show lessR x y = y by unfold lessR; rw [if_neg]; have := @cmpZ_gt x.iv y.iv; omega)
    clear hc
    go_wp2_with fail
    have hst := stored q0 q1 q2 (fun _ h => by cases h) (fun _ h => by cases h) (fun _ h => by cases h) (.bool y.neg) (.slice y.a y.xs.length y.c) (.int .i64 y.e)
    generalize (((w1.setCell _ _).setCell _ _).setCell _ _) = W2 at hst ⊢
    obtain ⟨s0, s1, s2, _, s4, s5, _, _⟩ := hst
    refine bodyPost_ret (v := .agg #[.bool y.neg, .slice y.a y.xs.length y.c, .int .i64 y.e]) (by simp [results, Tryz.results155, go_sem, s0, s1, s2]) rfl ?_
    rw [H.out]
    exact ⟨rfl, s5 _ hk2 (by omega)⟩

set_option maxHeartbeats 4000000 in
theorem r5most_ok (x y : RD) (w : World) (hx : x.ok w) (hy : y.ok w) :
    Calls Tryz.prog 114 #[.agg #[.bool x.neg, .slice x.a x.xs.length x.c, .int .i64 x.e], .agg #[.bool y.neg, .slice y.a y.xs.length y.c, .int .i64 y.e]] w fun e w' => e = .returned (.agg #[.bool (moreR x y).neg, .slice (moreR x y).a (moreR x y).xs.length (moreR x y).c, .int .i64 (moreR x y).e]) ∧ Kp w w' := by
  go_enter Tryz.func114, Tryz.ntmps114
  go_wp2_with fail
  generalize hW : (((w.alloc _).alloc _).alloc _) = W at *
  have hk : Kp w W := hW ▸ (((Kp.refl w).alloc _).alloc _).alloc _
  have hS : (W.cell? ⟨w.heap.size, 0, none⟩ = some (.bool x.neg) ∧ W.cell? ⟨w.heap.size, 1, none⟩ = some (.slice x.a x.xs.length x.c) ∧ W.cell? ⟨w.heap.size, 2, none⟩ = some (.int .i64 x.e)) ∧ W.cell? ⟨w.heap.size + 1, 0, none⟩ = some (.bool y.neg) ∧ W.cell? ⟨w.heap.size + 1, 1, none⟩ = some (.slice y.a y.xs.length y.c) ∧ W.cell? ⟨w.heap.size + 1, 2, none⟩ = some (.int .i64 y.e) := by rw [← hW]; exact keep33 ((Kp.refl _).alloc _) (by simp)
  have hB : Box3 W (w.heap.size + 2) (.bool false) (.slice none 0 0) (.int .i64 0) := hW ▸ Box3.new3 _ _ _ _ _ _ _
  clear hW
  refine (r2cmp_rok x y _ (hx.kp hk) (hy.kp hk)).mono ?_
  rintro e w1 ⟨rfl, hk1⟩
  have hS1 := keep33 hk1 hS
  obtain ⟨q0, q1, q2, f0, f1, f2⟩ := hB.kp hk1
  have hk2 := hk.trans hk1
  clear hS hk hk1 hB
  by_cases hc : 0 ≤ cmpZ x.iv y.iv
  · have hd := decide_eq_true hc
    have H := Lib.hid (show moreR x y = x by unfold moreR; rw [if_pos]; have := @cmpZ_lt x.iv y.iv; omega)
    clear hc
    go_wp2_with fail
    have hst := stored q0 q1 q2 (fun _ h => by cases h) (fun _ h => by cases h) (fun _ h => by cases h) (.bool x.neg) (.slice x.a x.xs.length x.c) (.int .i64 x.e)
    generalize (((w1.setCell _ _).setCell _ _).setCell _ _) = W2 at hst ⊢
    obtain ⟨s0, s1, s2, _, s4, s5, _, _⟩ := hst
    refine bodyPost_ret (v := .agg #[.bool x.neg, .slice x.a x.xs.length x.c, .int .i64 x.e]) (by simp [results, Tryz.results114, go_sem, s0, s1, s2]) rfl ?_
    rw [H.out]
    exact ⟨rfl, s5 _ hk2 (by omega)⟩
  · have hd := decide_eq_false hc
    have H := Lib.hid (show moreR x y = y by unfold moreR; rw [if_neg]; have := @cmpZ_lt x.iv y.iv; omega)
    clear hc
    go_wp2_with fail
    have hst := stored q0 q1 q2 (fun _ h => by cases h) (fun _ h => by cases h) (fun _ h => by cases h) (.bool y.neg) (.slice y.a y.xs.length y.c) (.int .i64 y.e)
    generalize (((w1.setCell _ _).setCell _ _).setCell _ _) = W2 at hst ⊢
    obtain ⟨s0, s1, s2, _, s4, s5, _, _⟩ := hst
    refine bodyPost_ret (v := .agg #[.bool y.neg, .slice y.a y.xs.length y.c, .int .i64 y.e]) (by simp [results, Tryz.results114, go_sem, s0, s1, s2]) rfl ?_
    rw [H.out]
    exact ⟨rfl, s5 _ hk2 (by omega)⟩
end Go.Proofs.YtdidocdpjiiedaaGreatDoor
end
