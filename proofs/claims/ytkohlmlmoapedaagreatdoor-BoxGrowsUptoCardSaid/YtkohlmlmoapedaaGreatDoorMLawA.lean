/-
  Walks: the law's own small functions: large, points, awake$1.
-/
import Derived.Test.YtkohlmlmoapedaaGreatDoorMR2B
import Derived.Test.YtkohlmlmoapedaaGreatDoorMIdxI
import Derived.Test.YtkohlmlmoapedaaGreatDoorMIdxD
import Derived.Test.YtkohlmlmoapedaaGreatDoorMEqfD
import Derived.Test.YtkohlmlmoapedaaGreatDoorMRoB
namespace Go.Proofs.YtkohlmlmoapedaaGreatDoor
open Go.RowKit

/-- has a number more than 300 limbs? -/
def lngR (x : RD) : Bool := decide (300 < x.xs.length)
def lngI (x : RI) : Bool := lngR x.lo || lngR x.hi
theorem enters_large1 : Enters Tryz.prog 20 := fun _ _ => by kernel_rfl
theorem enters_large2 : Enters Tryz.prog 23 := fun _ _ => by kernel_rfl
theorem large1_any (x : RD) (w : World) :
    Calls Tryz.prog 20 #[.agg #[.bool x.neg, .slice x.a x.xs.length x.c, .int .i64 x.e]] w fun e w' => e = .returned (.bool (lngR x)) ∧ Kp w w' := by
  by_cases h : 300 < x.xs.length
  · have H := Lib.hid (show lngR x = true from decide_eq_true h)
    have hi : (300 : Int) < (x.xs.length : Int) := by omega
    go_enter Tryz.func20, Tryz.ntmps20
    go_wp2_with fail
    go_ret
    exact ⟨ret_bool H.out.symm, (Kp.refl w).alloc _⟩
  · have H := Lib.hid (show lngR x = false from decide_eq_false h)
    have hi : ¬ (300 : Int) < (x.xs.length : Int) := by omega
    go_enter Tryz.func20, Tryz.ntmps20
    go_wp2_with fail
    go_ret
    exact ⟨ret_bool H.out.symm, (Kp.refl w).alloc _⟩
theorem large2_any (x : RI) (g : Nat) (w : World) (hg : w.cell? ⟨g, 0, none⟩ = some (.func (.func 20) #[] #[])) :
    Calls Tryz.prog 23 #[.agg #[.bool x.lo.neg, .slice x.lo.a x.lo.xs.length x.lo.c, .int .i64 x.lo.e, .bool x.hi.neg, .slice x.hi.a x.hi.xs.length x.hi.c, .int .i64 x.hi.e, .bool x.all], .pointer (some ⟨g, 0, none⟩)] w fun e w' => e = .returned (.bool (lngI x)) ∧ Kp w w' := by
  have H := Lib.hid (show lngI x = (lngR x.lo || lngR x.hi) from rfl)
  have hgl := World.block_lt_of_cell? w _ hg
  have hk := (Kp.refl w).alloc (.cells #[.bool x.lo.neg, .slice x.lo.a x.lo.xs.length x.lo.c, .int .i64 x.lo.e, .bool x.hi.neg, .slice x.hi.a x.hi.xs.length x.hi.c, .int .i64 x.hi.e, .bool x.all] 34)
  have hg1 := hk.cell hg
  have hS : (w.alloc (.cells #[.bool x.lo.neg, .slice x.lo.a x.lo.xs.length x.lo.c, .int .i64 x.lo.e, .bool x.hi.neg, .slice x.hi.a x.hi.xs.length x.hi.c, .int .i64 x.hi.e, .bool x.all] 34)).cell? ⟨w.heap.size, 0, none⟩ = some (.bool x.lo.neg) ∧ (w.alloc (.cells #[.bool x.lo.neg, .slice x.lo.a x.lo.xs.length x.lo.c, .int .i64 x.lo.e, .bool x.hi.neg, .slice x.hi.a x.hi.xs.length x.hi.c, .int .i64 x.hi.e, .bool x.all] 34)).cell? ⟨w.heap.size, 1, none⟩ = some (.slice x.lo.a x.lo.xs.length x.lo.c) ∧ (w.alloc (.cells #[.bool x.lo.neg, .slice x.lo.a x.lo.xs.length x.lo.c, .int .i64 x.lo.e, .bool x.hi.neg, .slice x.hi.a x.hi.xs.length x.hi.c, .int .i64 x.hi.e, .bool x.all] 34)).cell? ⟨w.heap.size, 2, none⟩ = some (.int .i64 x.lo.e) ∧ (w.alloc (.cells #[.bool x.lo.neg, .slice x.lo.a x.lo.xs.length x.lo.c, .int .i64 x.lo.e, .bool x.hi.neg, .slice x.hi.a x.hi.xs.length x.hi.c, .int .i64 x.hi.e, .bool x.all] 34)).cell? ⟨w.heap.size, 3, none⟩ = some (.bool x.hi.neg) ∧ (w.alloc (.cells #[.bool x.lo.neg, .slice x.lo.a x.lo.xs.length x.lo.c, .int .i64 x.lo.e, .bool x.hi.neg, .slice x.hi.a x.hi.xs.length x.hi.c, .int .i64 x.hi.e, .bool x.all] 34)).cell? ⟨w.heap.size, 4, none⟩ = some (.slice x.hi.a x.hi.xs.length x.hi.c) ∧ (w.alloc (.cells #[.bool x.lo.neg, .slice x.lo.a x.lo.xs.length x.lo.c, .int .i64 x.lo.e, .bool x.hi.neg, .slice x.hi.a x.hi.xs.length x.hi.c, .int .i64 x.hi.e, .bool x.all] 34)).cell? ⟨w.heap.size, 5, none⟩ = some (.int .i64 x.hi.e) ∧ (w.alloc (.cells #[.bool x.lo.neg, .slice x.lo.a x.lo.xs.length x.lo.c, .int .i64 x.lo.e, .bool x.hi.neg, .slice x.hi.a x.hi.xs.length x.hi.c, .int .i64 x.hi.e, .bool x.all] 34)).cell? ⟨w.heap.size, 6, none⟩ = some (.bool x.all) := by simp
  clear hg
  go_enter Tryz.func23, Tryz.ntmps23
  go_wp2_with fail
  generalize w.alloc _ = W at *
  refine (large1_any x.lo _).mono ?_
  rintro e w1 ⟨rfl, hk1⟩
  have hg2 := hk1.cell hg1
  have hS1 := keep7 hk1 hS
  have hk2 := hk.trans hk1
  clear hg1 hS hk hk1
  cases h1 : lngR x.lo with
  | true =>
    rw [h1] at H
    clear h1
    go_wp2_with fail
    go_ret
    exact ⟨ret_bool (by rw [H.out]; rfl), hk2⟩
  | false =>
    rw [h1] at H
    clear h1
    go_wp2_with fail
    refine (large1_any x.hi _).mono ?_
    rintro e w3 ⟨rfl, hk3⟩
    go_wp2_with fail
    go_ret
    exact ⟨ret_bool (by rw [H.out]; simp), hk2.trans hk3⟩
theorem store_func (a : Addr) (f : Fn) (ts cap : Array Value) (m : Mode) (w : World) : (store a (.func f ts cap) m).run Tryz.prog w = Go.stored Tryz.prog w a (.func f ts cap) m := run_store _ w a _ m rfl
/-- is a box or a point too large to be looked at? -/
def lrg (zs : List RI) (ys : List RD) : Bool := decide (12 < zs.length) || (decide (12 < ys.length) || (ys.any lngR || zs.any lngI))
set_option maxRecDepth 100000 in
set_option maxHeartbeats 4000000 in
theorem large_any (a b : Option Addr) (zs : List RI) (ys : List RD) (c d : Nat) (w : World) (h : RowI w a zs) (hl : zs.length ≤ 1100000) (h' : RowD w b ys) (hl' : ys.length ≤ 1100000) :
    Calls Tryz.prog 5 #[.slice a zs.length c, .slice b ys.length d] w fun e w' => e = .returned (.bool (lrg zs ys)) ∧ Kp w w' := by
  have H := Lib.hid (show lrg zs ys = (decide (12 < zs.length) || (decide (12 < ys.length) || (ys.any lngR || zs.any lngI))) from rfl)
  have hk : Kp w (w.alloc (.cells #[.func (.func 20) #[] #[]] 48)) := (Kp.refl w).alloc _
  have hg : (w.alloc (.cells #[.func (.func 20) #[] #[]] 48)).cell? ⟨w.heap.size, 0, none⟩ = some (.func (.func 20) #[] #[]) := by simp
  have hD := Lib.hid (containsD b ys d 20 #[] _ lngR hl' (h'.kp hk) ⟨enters_large1, fun x hx w1 hk1 => large1_any x w1⟩)
  have hI := Lib.hid (fun W (k : Kp (w.alloc (.cells #[.func (.func 20) #[] #[]] 48)) W) => containsI a zs c 23 #[.pointer (some ⟨w.heap.size, 0, none⟩)] W lngI hl ((h.kp hk).kp k) ⟨enters_large2, fun x hx w1 hk1 => large2_any x _ w1 (hk1.cell (k.cell hg))⟩)
  have Hk := Lib.hid hk
  clear h h' hk
  by_cases h1 : 12 < zs.length
  · have hi : (12 : Int) < (zs.length : Int) := by omega
    rw [decide_eq_true h1] at H
    clear hg
    have hsf := store_func
    go_enter Tryz.func5, Tryz.ntmps5
    go_wp2_with fail
    go_ret
    exact ⟨ret_bool (by rw [H.out]; first | rfl | simp | (simp; omega)), Hk.out⟩
  · have hi : ¬ (12 : Int) < (zs.length : Int) := by omega
    rw [decide_eq_false h1] at H
    by_cases h2 : 12 < ys.length
    · have hi2 : (12 : Int) < (ys.length : Int) := by omega
      rw [decide_eq_true h2] at H
      clear hg
      have hsf := store_func
      go_enter Tryz.func5, Tryz.ntmps5
      go_wp2_with fail
      go_ret
      exact ⟨ret_bool (by rw [H.out]; simp), Hk.out⟩
    · have hi2 : ¬ (12 : Int) < (ys.length : Int) := by omega
      rw [decide_eq_false h2] at H
      have hsf := store_func
      go_enter Tryz.func5, Tryz.ntmps5
      go_wp2_with fail
      refine hD.out.mono ?_
      rintro e w3 ⟨rfl, hk3⟩
      cases h3 : ys.any lngR with
      | true =>
        rw [h3] at H
        clear h3
        go_wp2_with fail
        go_ret
        exact ⟨ret_bool (by rw [H.out]; simp), Hk.out.trans hk3⟩
      | false =>
        rw [h3] at H
        clear h3
        go_wp2_with fail
        refine (hI.out _ hk3).mono ?_
        rintro e w5 ⟨rfl, hk5⟩
        go_wp2_with fail
        go_ret
        exact ⟨ret_bool (by rw [H.out]; simp), (Hk.out.trans hk3).trans hk5⟩
theorem enters_r2Equal : Enters Tryz.prog 19 := fun _ _ => by kernel_rfl
theorem points_any (a b : Option Addr) (zs ys : List RD) (c d : Nat) (w : World) (h : RowD w a zs) (hl : zs.length ≤ 1100000) (h' : RowD w b ys) (_hl' : ys.length ≤ 1100000) :
    Calls Tryz.prog 18 #[.slice a zs.length c, .slice b ys.length d] w fun e w' => e = .returned (.bool (allDD eqR zs ys)) ∧ Kp w w' := by
  have hE := Lib.hid (eqfDD a b zs ys c d 19 #[] w eqR hl h h' ⟨enters_r2Equal, fun x hx y hy w2 hk2 => r2Equal_any x y w2 ((RowD.rd h hx).kp hk2) ((RowD.rd h' hy).kp hk2)⟩)
  go_enter Tryz.func18, Tryz.ntmps18
  go_wp2_with fail
  refine hE.out.mono ?_
  rintro e w5 ⟨rfl, hk5⟩
  go_wp2_with fail
  go_ret
  exact ⟨rfl, hk5⟩
set_option maxHeartbeats 4000000 in
theorem awake1_any (n : Nat) (w : World) (hn : n ≤ 1000000) :
    Calls Tryz.prog 14 #[.int .i64 n] w (DyOut w (canon false n 0)) := by
  have hB := Box3.new w (.bool false) (.slice none 0 0) (.int .i64 0) 25
  go_enter Tryz.func14, Tryz.ntmps14
  go_wp2_with fail
  refine (r2Int_any n _ (by omega)).mono ?_
  rintro e w3 ⟨a3, c3, rfl, r3, l3, m3, k3⟩
  obtain ⟨q0, q1, q2, f0, f1, f2⟩ := hB.kp k3
  have hk2 := ((Kp.refl w).alloc _).trans k3
  generalize canon false n 0 = D at *
  have hst := stored q0 q1 q2 (fun _ h => by cases h) (fun _ h => by cases h) (fun _ h => by cases h) (.bool D.neg) (.slice a3 (limbs D.m).length c3) (.int .i64 D.e)
  go_wp2_with fail
  generalize (((w3.setCell _ _).setCell _ _).setCell _ _) = W at hst ⊢
  obtain ⟨s0, s1, s2, _, s4, s5, _, _⟩ := hst
  refine bodyPost_ret (v := .agg #[.bool D.neg, .slice a3 (limbs D.m).length c3, .int .i64 D.e]) (by simp [results, Tryz.results14, go_sem, s0, s1, s2]) rfl ?_
  exact ⟨a3, c3, rfl, s4 _ _ r3, l3, m3, s5 _ hk2 (by omega)⟩
end Go.Proofs.YtkohlmlmoapedaaGreatDoor
