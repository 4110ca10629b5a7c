/-
  Walks: round.div of any numbers.
-/
import Derived.Test.YtndbnfeapdkoaaaDoorMRoDiv
import Derived.Test.YtndbnfeapdkoaaaDoorMDivR
import Derived.Test.YtndbnfeapdkoaaaDoorMKnuE
import Derived.Test.YtndbnfeapdkoaaaDoorMLaw3P
namespace Go.Proofs.YtndbnfeapdkoaaaDoor
open Go.RowKit

/-- how many bits more are computed -/
def quoK (x y : RD) (p : Int) (t : Nat) : Nat := (p + t + bits (val y.xs) - bits (val x.xs)).toNat
/-- a quotient, rounded -/
def divB (x y : RD) (p : Int) (up : Bool) : Dy × Int :=
  if fltB p [x, y] = 0 then (if y.xs.length = 0 then (.zero, 10) else if x.xs.length = 0 then (.zero, 0) else rndE (quoR (x.neg != y.neg) (val x.xs) (val y.xs) (x.e - y.e) p.toNat up (quoK x y p 2)))
  else (.zero, fltB p [x, y])
set_option maxRecDepth 100000 in
set_option maxHeartbeats 8000000 in
theorem div_rd (x y : RD) (p : Int) (up : Bool) (w : World) (hx : x.rd w) (hy : y.rd w) (hT : Tab w) :
    Calls Tryd.prog 21 #[.agg #[.bool x.neg, .slice x.a x.xs.length x.c, .int .i64 x.e], .agg #[.bool y.neg, .slice y.a y.xs.length y.c, .int .i64 y.e], .int .i64 p, .bool up] w (NumE w (divB x y p up).1 (divB x y p up).2) := by
  obtain ⟨D, hD⟩ : ∃ D, D = divB x y p up := ⟨_, rfl⟩
  have HD := Lib.hid hD
  rw [← hD]
  clear hD
  by_cases hmain : fltB p [x, y] = 0 ∧ y.xs.length ≠ 0 ∧ x.xs.length ≠ 0
  · obtain ⟨h0, hy0, hx0⟩ := hmain
    obtain ⟨hv, hp0, hp1⟩ := fltB_zero.1 h0
    obtain ⟨q, rfl⟩ := Int.eq_ofNat_of_zero_le (show 0 ≤ p by omega)
    have hxo : x.ok w := ⟨hx, by simpa using (List.all_eq_true.1 hv) x (by simp)⟩
    have hyo : y.ok w := ⟨hy, by simpa using (List.all_eq_true.1 hv) y (by simp)⟩
    have zx := rdok_zero hxo
    have zy := rdok_zero hyo
    have hxm : val x.xs ≠ 0 := fun h => hx0 (zx.2 h)
    have hym : val y.xs ≠ 0 := fun h => hy0 (zy.2 h)
    have hK : ((quoK x y q 3 : Nat) : Int) = max 0 ((q : Int) + 3 + bits (val y.xs) - bits (val x.xs)) := by unfold quoK; omega
    have hbx : bits (val x.xs) ≤ 4096 := dok_bits (rdok_dy hxo)
    have hby : bits (val y.xs) ≤ 4096 := dok_bits (rdok_dy hyo)
    have hlim : (limbs (val x.xs * 2 ^ quoK x y q 3)).length ≤ 256 := limbs_of_bits (by rw [bits_mul_pow hxm]; omega)
    have H := div_of x y q (quoK x y q 3) up w hxo hyo hxm hym (by omega) (by omega) hT hK (fun W a c k hr hc hm hyr => by
      have h := divide_any a y.a (limbs (val x.xs * 2 ^ quoK x y q 3)) y.xs c y.c W hr hyr hlim hc hyo.1.2.1 hm hyo.1.2.2.1 hym
      rwa [val_limbs] at h)
    have e : quoR (x.neg != y.neg) (val x.xs) (val y.xs) (x.e - y.e) q up (quoK x y q 3) = quoR (x.neg != y.neg) (val x.xs) (val y.xs) (x.e - y.e) q up (quoK x y q 2) := by
      have h3 : quoK x y q 3 = quoK x y q 2 + (quoK x y q 3 - quoK x y q 2) := by unfold quoK; omega
      rw [h3]
      exact quoR_more hxm hym (by omega) (by unfold quoK; omega)
    have hDD : D = rndE (rndS (x.neg != y.neg) (val x.xs * 2 ^ quoK x y q 3 / val y.xs) (x.e - quoK x y q 3 - y.e) (decide (0 < bits (val x.xs * 2 ^ quoK x y q 3 % val y.xs))) q up) := by
      rw [HD.out]
      unfold divB
      rw [if_pos h0, if_neg hy0, if_neg hx0, Int.toNat_natCast, ← e]
      unfold quoR
      rw [show x.e - y.e - (quoK x y q 3 : Int) = x.e - quoK x y q 3 - y.e by omega]
    rw [hDD]
    exact H
  · go_enter Tryd.func21, Tryd.ntmps21
    go_wp2_with fail
    generalize hW : (((w.alloc _).alloc _).alloc _) = W at *
    have hk : Kp w W := hW ▸ (((Kp.refl w).alloc _).alloc _).alloc _
    have hS : W.cell? ⟨w.heap.size, 0, none⟩ = some (.bool x.neg) ∧ W.cell? ⟨w.heap.size, 1, none⟩ = some (.slice x.a x.xs.length x.c) ∧ W.cell? ⟨w.heap.size, 2, none⟩ = some (.int .i64 x.e) ∧ W.cell? ⟨w.heap.size + 1, 0, none⟩ = some (.bool y.neg) ∧ W.cell? ⟨w.heap.size + 1, 1, none⟩ = some (.slice y.a y.xs.length y.c) ∧ W.cell? ⟨w.heap.size + 1, 2, none⟩ = some (.int .i64 y.e) := by rw [← hW]; exact keep6 ((Kp.refl _).alloc _) (by simp)
    have hB : Box3 W (w.heap.size + 2) (.bool false) (.slice none 0 0) (.int .i64 0) := hW ▸ Box3.new3 _ _ _ _ _ _ _
    have hsz : W.heap.size = w.heap.size + 1 + 1 + 1 := by rw [← hW]; simp
    clear hW
    have hka := (Kp.refl W).alloc (.cells #[.bool x.neg, .slice x.a x.xs.length x.c, .int .i64 x.e, .bool y.neg, .slice y.a y.xs.length y.c, .int .i64 y.e] 24)
    have hRw := rowD_two W x y (hx.kp hk) (hy.kp hk) 24
    rw [hsz] at hRw
    clear hsz
    refine (fault_any p _ [x, y] 2 _ hRw (by simp)).mono ?_
    rintro e w1 ⟨rfl, hk1⟩
    have hS1 := keepRR (hka.trans hk1) hS
    have hB1 := hB.kp (hka.trans hk1)
    have hk2 := hk.trans (hka.trans hk1)
    clear hS hB hk hk1 hka hRw
    by_cases h0 : fltB p [x, y] = 0
    · rw [h0]
      obtain ⟨q0, q1, q2, f0, f1, f2⟩ := hB1
      obtain ⟨s0, s1, s2, t0, t1, t2⟩ := hS1
      by_cases hy0 : y.xs.length = 0
      · have hz : ((y.xs.length : Int) == 0) = true := beq_iff_eq.2 (by omega)
        have HD3 := Lib.hid (show D = (.zero, 10) by rw [HD.out]; unfold divB; rw [if_pos h0, if_pos hy0])
        clear hy0 h0 hmain
        go_wp2_with fail
        have hst := stored q0 q1 q2 (fun _ h => by cases h) (fun _ h => by cases h) (fun _ h => by cases h) (.bool false) (.slice none 0 0) (.int .i64 0)
        generalize (((w1.setCell _ _).setCell _ _).setCell _ _) = W9 at hst ⊢
        obtain ⟨s0, s1, s2, _, s4, s5, _, _⟩ := hst
        refine bodyPost_ret (v := .tuple #[.agg #[.bool false, .slice none 0 0, .int .i64 0], .int .i64 10]) (by simp [results, Tryd.results21, go_sem, s0, s1, s2]) rfl ?_
        rw [HD3.out]
        exact numE_zero rfl (s5 _ hk2 (by omega))
      · have hx0 : x.xs.length = 0 := Classical.byContradiction fun h => hmain ⟨h0, hy0, h⟩
        have hz : ((y.xs.length : Int) == 0) = false := beq_eq_false_iff_ne.2 (by omega)
        have hz2 : ((x.xs.length : Int) == 0) = true := beq_iff_eq.2 (by omega)
        have HD3 := Lib.hid (show D = (.zero, 0) by rw [HD.out]; unfold divB; rw [if_pos h0, if_neg hy0, if_pos hx0])
        clear hy0 h0 hx0 hmain
        go_wp2_with fail
        have hst := stored q0 q1 q2 (fun _ h => by cases h) (fun _ h => by cases h) (fun _ h => by cases h) (.bool false) (.slice none 0 0) (.int .i64 0)
        generalize (((w1.setCell _ _).setCell _ _).setCell _ _) = W9 at hst ⊢
        obtain ⟨s0, s1, s2, _, s4, s5, _, _⟩ := hst
        refine bodyPost_ret (v := .tuple #[.agg #[.bool false, .slice none 0 0, .int .i64 0], .int .i64 0]) (by simp [results, Tryd.results21, go_sem, s0, s1, s2]) rfl ?_
        rw [HD3.out]
        exact numE_zero rfl (s5 _ hk2 (by omega))
    · have hz : (fltB p [x, y] == 0) = false := beq_eq_false_iff_ne.2 h0
      have hz2 : (fltB p [x, y] != 0) = true := by rw [bne, hz]; rfl
      have HD2 := Lib.hid (show D = (.zero, fltB p [x, y]) by rw [HD.out]; unfold divB; rw [if_neg h0])
      clear h0 hS1 hmain
      obtain ⟨q0, q1, q2, f0, f1, f2⟩ := hB1
      go_wp2_with fail
      have hst := stored q0 q1 q2 (fun _ h => by cases h) (fun _ h => by cases h) (fun _ h => by cases h) (.bool false) (.slice none 0 0) (.int .i64 0)
      generalize (((w1.setCell _ _).setCell _ _).setCell _ _) = W9 at hst ⊢
      obtain ⟨s0, s1, s2, _, s4, s5, _, _⟩ := hst
      refine bodyPost_ret (v := .tuple #[.agg #[.bool false, .slice none 0 0, .int .i64 0], .int .i64 (fltB p [x, y])]) (by simp [results, Tryd.results21, go_sem, s0, s1, s2]) rfl ?_
      rw [HD2.out]
      exact numE_zero rfl (s5 _ hk2 (by omega))
end Go.Proofs.YtndbnfeapdkoaaaDoor
